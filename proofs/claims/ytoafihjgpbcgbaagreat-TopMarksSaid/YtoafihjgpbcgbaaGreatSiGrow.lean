/- The interpreter's append: in place, into a new row, or either of the two where the capacity is known from below alone. Conditions: none. -/
import Derived.Test.YtoafihjgpbcgbaaGreatSiNew
import Derived.Deep.AppendSrc
import Derived.Deep.Upon
namespace Go.Proofs.YtoafihjgpbcgbaaGreat.Si
noncomputable section
open Go.RowKit

/-- Cells are read at a name. -/
def readA (s : St) (id off n : Nat) : Option (List AV) := match s.get id with
  | some (.cells cs _) => if off + n ≤ cs.length then some ((cs.drop off).take n) else none
  | _ => none

/-- What is appended. -/
def srcA (T : TT) (s : St) (tx : TypeId) (y : AV) (es : Nat) : Option (Nat × List AV) := match y, look T tx with
  | .snil, some { k := .slice _, .. } => some (0, [])
  | .sl id off len _ _ _, some { k := .slice _, .. } => (readA s id off (len * es)).bind fun l => if l.all oneA = true then some (len, l) else none
  | _, _ => none

/-- append, its first argument and what is appended being known. -/
def growA (s : St) (e : TypeId) (te : TI) (x : AV) (n : Nat) (l : List AV) : Option (AV × St) := match x with
  | .snil => if n = 0 then some (.snil, s) else if n * te.bytes ≤ 140737488355328 ∧ n ≤ 1048576 ∧ s.next < 2 ^ dep then some (.sl s.next 0 n n false te.size, s.new (.cells l e)) else none
  | .sl id off len cap ex es => if es = te.size ∧ len ≤ cap then
      if n = 0 then some (.sl id off len cap ex es, s)
      else if len + n ≤ cap then (writeA s id (off + len * es) l).map fun s' => (.sl id off (len + n) cap ex es, s')
      else if (len + n) * te.bytes ≤ 140737488355328 ∧ len + n ≤ 1048576 ∧ s.next < 2 ^ dep then
        (readA s id off (len * es)).bind fun olds => bif ex then some (.sl s.next 0 (len + n) (len + n) false es, s.new (.cells (olds ++ l) e))
          else match s.get id with
            | some (.cells _ ct) => if ct = e then some (.sl s.next 0 (len + n) (len + n) false es, (s.put id none).new (.cells (olds ++ l) e)) else none
            | _ => none
      else none
    else none
  | _ => none

def appendA (T : TT) (s : St) (t tx : TypeId) (x y : AV) : Option (AV × St) := match look T t with
  | some { k := .slice e, .. } => (look T e).bind fun te => (srcA T s tx y te.size).bind fun p => growA s e te x p.1 p.2
  | _ => none

/-- What an operation on memory brings: a run, more places, a world that stands for the new state; names without a place stay so, and their objects stay. -/
structure Eff (B : Nat) (w0 : World) (φ φ' : Phi) (s s' : St) (w' : World) : Prop where
  le : φ.le φ'
  stands : Stands B w0 φ' s' w'
  next : s.next ≤ s'.next
  kept : ∀ j, j < s.next → φ j = none → φ' j = none ∧ s'.get j = s.get j

section
variable {P : Program} {φ : Phi} {B : Nat} {w0 w : World} {s s' : St}

theorem Stands.drew (hs : Stands B w0 φ s w) : Stands B w0 φ s w.drew :=
  ⟨⟨hs.below.os, hs.below.tape, hs.below.output, hs.below.size, hs.below.block⟩, hs.size, hs.room, hs.dom, fun i L o h ho => (hs.lies i L o h ho).heap rfl, hs.apart⟩

theorem Eff.refl (hs : Stands B w0 φ s w) : Eff B w0 φ φ s s w := ⟨φ.le_refl, hs, Nat.le_refl _, fun _ _ h => ⟨h, rfl⟩⟩

theorem Stands.none_next (hs : Stands B w0 φ s w) : φ s.next = none := by
  cases h : φ s.next with
  | none => rfl
  | some L => exact absurd (hs.dom _ _ h).1 (Nat.lt_irrefl _)

theorem read_ok (hs : Stands B w0 φ s w) {id off n : Nat} {L : Loc} (hL : φ id = some L) {l : List AV} (h : readA s id off n = some l) :
    ∃ us, concL φ l = some us ∧ us.length = n ∧ off + n ≤ L.size ∧ ∀ j u, us[j]? = some u → w.cell? ⟨L.blk, L.base + off + j, none⟩ = some u := by
  unfold readA at h
  split at h
  · rename_i cs t hg
    split at h
    · rename_i hle
      injection h with h
      subst h
      obtain ⟨C, vs, h1, h2, h3, h4, h5⟩ := hs.lies id L _ hL hg
      have hlv := concL_len h4
      refine ⟨_, (concL_take (concL_take h4 off).2 n).1, by rw [List.length_take, List.length_drop]; omega, by omega, fun j u hj => ?_⟩
      rw [cell_of_row w L.blk _ C t (0, 0) h1, Nat.add_assoc]
      rw [List.getElem?_take] at hj
      split at hj
      · rw [List.getElem?_drop] at hj
        exact h5 (off + j) u hj
      · cases hj
    · cases h
  · cases h

theorem src_ok {T : TT} (hT : TypesOk P T) (hs : Stands B w0 φ s w) {tx : TypeId} {y : AV} {es n : Nat} {l : List AV} (h : srcA T s tx y es = some (n, l)) {v : Value} (hy : conc φ y = some v) :
    ∃ us, concL φ l = some us ∧ us.length = n * es ∧ Src P es tx v n us w := by
  unfold srcA at h
  split at h
  · rename_i hl
    obtain ⟨rfl, rfl⟩ : 0 = n ∧ [] = l := by simpa using h
    obtain ⟨d, hd, _, hk⟩ := (hT.at hl).kind
    dsimp only at hk
    subst hk
    injection hy with hy
    subst hy
    exact ⟨[], rfl, by simp, Src.ofNil w hd 0⟩
  · rename_i id off len _ _ _ _ _ _ _ _ hl
    simp only [Option.bind_eq_some_iff] at h
    obtain ⟨m, hm, h⟩ := h
    split at h
    · rename_i h1
      obtain ⟨rfl, rfl⟩ : len = n ∧ m = l := by simpa using h
      obtain ⟨d, hd, _, hk⟩ := (hT.at hl).kind
      dsimp only at hk
      subst hk
      obtain ⟨L, c, hL, rfl, _⟩ := conc_sl hy
      obtain ⟨us, k1, k2, _, k3⟩ := read_ok hs hL hm
      exact ⟨us, k1, k2, Src.ofSlice w hd _ _ _ us k2 (fun j u hj => by rw [Addr.add_mid]; exact k3 j u hj) (allOne_ok k1 h1)⟩
    · cases h
  · cases h

theorem zeroCells_len (z : Array Value) (n : Nat) : (Builtin.zeroCells z n).size = n * z.size := by simp [Builtin.zeroCells]

/-- A new row for the old elements and the new ones. -/
theorem grow_ok {e : TypeId} {te : TI} (he : TypeOk P e te) (hs : Stands B w0 φ s w) (hr : s.next < 2 ^ dep) {l : List AV} {us : List Value} (hl : concL φ l = some us) {need : Nat} (hn : us.length = need * te.size) {g : Nat} (hg : need ≤ g) {z : Value} (hz : z.cells.size = te.size) :
    Eff B w0 φ (φ.up s.next ⟨w.heap.size, 0, g * te.size⟩) s (s.new (.cells l e)) (w.drew.alloc (.cells (us.toArray ++ Builtin.zeroCells z.cells (g - need)) e)) ∧
      conc (φ.up s.next ⟨w.heap.size, 0, g * te.size⟩) (.sl s.next 0 need need false te.size) = some (.slice (some ⟨w.heap.size, 0, none⟩) need g) := by
  have hp := he.pos
  have hnn := hs.none_next
  have hnew : (s.new (.cells l e)).next = s.next + 1 := rfl
  refine ⟨⟨Phi.up_le hnn _, ?_, by omega, fun j hj hjn => ⟨?_, ?_⟩⟩, ?_⟩
  · refine (hs.drew.new (.cells l e) hr).place hnn (by omega) rfl fun o ho => ?_
    rw [St.get_new hr hr, if_pos rfl] at ho
    injection ho with ho
    subst ho
    refine ⟨_, us, heap_alloc_new _ _, ?_, ?_, concL_mono (Phi.up_le hnn _) _ _ hl, fun j v hj => ?_⟩
    · rw [Array.size_append, zeroCells_len, hz]
      simp only [List.size_toArray, hn, Nat.zero_add]
      rw [← Nat.add_mul]
      congr 1
      omega
    · rw [← concL_len hl, hn]
      exact Nat.mul_le_mul_right _ hg
    · have hjl : j < us.length := (List.getElem?_eq_some_iff.1 hj).1
      rw [Nat.zero_add, Array.getElem?_append_left (by simpa using hjl)]
      simpa using hj
  · unfold Phi.up
    rw [if_neg (by omega)]
    exact hjn
  · rw [St.get_new hr (by omega), if_neg (by omega)]
  · simp only [conc, Phi.up_self, Option.bind_some, Bool.false_eq_true, if_false, Nat.sub_zero, Nat.add_zero]
    rw [Nat.mul_div_cancel _ hp, if_pos hg]

end
end
end Go.Proofs.YtoafihjgpbcgbaaGreat.Si
