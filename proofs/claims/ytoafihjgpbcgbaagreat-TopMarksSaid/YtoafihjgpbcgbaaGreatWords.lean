/- Words for memory that several proofs of this seat use: a slice that reads as a list of values, nil let in. Conditions: none. -/
import Derived.Test.YtoafihjgpbcgbaaGreatProg
import Derived.WalkKit
import Derived.WalkSpells
import Derived.WalkLawsBesides
import Derived.Lib.Hide
import Derived.IntWalk
import Derived.Deep.QuietTactic
import Derived.BigQuiet
import Derived.BigRegion
import Derived.Deep.RegionHeld3
import Derived.Deep.AppendLies
import Derived.Deep.LoopGhost
import Derived.Laws.OwnMore
import Derived.Deep.Onto
import Derived.Outline
namespace Go.Proofs.YtoafihjgpbcgbaaGreat
open Go.RowKit

/-- The slice value '.slice A vs.length cap' holds the one-cell values vs, in a block below B. -/
def Rd (w : World) (B : Nat) (A : Option Addr) (vs : List Value) : Prop :=
  0 < vs.length → ∃ b off, A = some ⟨b, off, none⟩ ∧ b < B ∧ ∀ j u, vs[j]? = some u → w.cell? ⟨b, off + j, none⟩ = some u

theorem Rd.nil_ (w : World) (B : Nat) (A : Option Addr) : Rd w B A [] := fun h => absurd h (by simp)
theorem Rd.keep {w w' : World} {B : Nat} {A : Option Addr} {vs : List Value} (h : Rd w B A vs) (hk : ∀ p : Addr, p.block < B → w'.cell? p = w.cell? p) : Rd w' B A vs := fun h0 => by
  obtain ⟨b, off, e, hb, hc⟩ := h h0
  exact ⟨b, off, e, hb, fun j u hu => (hk _ hb).trans (hc j u hu)⟩
theorem Rd.more {w : World} {B B' : Nat} {A : Option Addr} {vs : List Value} (h : Rd w B A vs) (hB : B ≤ B') : Rd w B' A vs := fun h0 => by
  obtain ⟨b, off, e, hb, hc⟩ := h h0
  exact ⟨b, off, e, by omega, hc⟩
theorem Rd.below {w w' : World} {B : Nat} {A : Option Addr} {vs : List Value} (h : Rd w B A vs) (hb : Below B w w') : Rd w' B A vs := h.keep fun _ hp => hb.cell hp
theorem Rd.alloc {w : World} {B : Nat} {A : Option Addr} {vs : List Value} (h : Rd w B A vs) (hB : B ≤ w.heap.size) (o : Obj) : Rd (w.alloc o) B A vs := h.keep fun p hp => World.cell?_alloc_lt w o p (by omega)

/-- A slice of ints. -/
def RdI (w : World) (B : Nat) (A : Option Addr) (zs : List Int) : Prop := Rd w B A (zs.map (Value.int .i64))

theorem RdI.at_ {w : World} {B : Nat} {A : Option Addr} {zs : List Int} (h : RdI w B A zs) (h0 : 0 < zs.length) :
    ∃ b off, A = some ⟨b, off, none⟩ ∧ b < B ∧ ∀ j z, zs[j]? = some z → w.cell? ⟨b, off + j, none⟩ = some (.int .i64 z) := by
  obtain ⟨b, off, e, hb, hc⟩ := h (by simpa using h0)
  exact ⟨b, off, e, hb, fun j z hz => hc j _ (by simp [hz])⟩
theorem RdI.below {w w' : World} {B : Nat} {A : Option Addr} {zs : List Int} (h : RdI w B A zs) (hb : Below B w w') : RdI w' B A zs := Rd.below h hb
theorem RdI.more {w : World} {B B' : Nat} {A : Option Addr} {zs : List Int} (h : RdI w B A zs) (hB : B ≤ B') : RdI w B' A zs := Rd.more h hB
theorem RdI.alloc {w : World} {B : Nat} {A : Option Addr} {zs : List Int} (h : RdI w B A zs) (hB : B ≤ w.heap.size) (o : Obj) : RdI (w.alloc o) B A zs := Rd.alloc h hB o
theorem RdI.drewN {w : World} {B : Nat} {A : Option Addr} {zs : List Int} (h : RdI w B A zs) (k : Nat) : RdI (w.drewN k) B A zs := Rd.keep h fun _ _ => rfl

theorem get_some {α : Type} (l : List α) (k : Nat) (h : k < l.length) : ∃ z, l[k]? = some z := ⟨l[k], List.getElem?_eq_getElem h⟩
theorem below_drewN {B : Nat} {a w : World} (h : Below B a w) (n : Nat) : Below B a (w.drewN n) := ⟨h.os, h.tape, h.output, h.size, h.block⟩
theorem below_drew {B : Nat} {a w : World} (h : Below B a w) : Below B a w.drew := ⟨h.os, h.tape, h.output, h.size, h.block⟩
theorem ret_int {k : IntKind} {a b : Int} (h : a = b) : Ending.returned (.int k a) = .returned (.int k b) := by rw [h]
theorem ret_pi {v : Value} {k : IntKind} {a b : Int} (h : a = b) : Ending.returned (.tuple #[v, .int k a]) = .returned (.tuple #[v, .int k b]) := by rw [h]
theorem ret_bool {a b : Bool} (h : a = b) : Ending.returned (.bool a) = .returned (.bool b) := by rw [h]


/- A block that is known whole. -/
theorem blk_cell {w : World} {g : Nat} {t : TypeId} {cs : Array Value} (h : w.heap[g]? = some (.cells cs t (0, 0))) (i : Nat) : w.cell? ⟨g, i, none⟩ = cs[i]? := by simp [World.cell?, h]
theorem blk_frozen {w : World} {g : Nat} {t : TypeId} {cs : Array Value} (h : w.heap[g]? = some (.cells cs t (0, 0))) (i : Nat) : w.frozen? ⟨g, i, none⟩ = false := by simp [World.frozen?, h]
theorem blk_lt {w : World} {g : Nat} {o : Obj} (h : w.heap[g]? = some o) : g < w.heap.size := by
  rcases Nat.lt_or_ge g w.heap.size with hlt | hge
  · exact hlt
  · rw [Array.getElem?_eq_none hge] at h; cases h
theorem blk_alloc {w : World} {g : Nat} {o : Obj} (h : w.heap[g]? = some o) (o' : Obj) : (w.alloc o').heap[g]? = some o := (Below.heap_alloc w o' g (blk_lt h)).trans h
theorem blk_set {w : World} {g : Nat} {t : TypeId} {cs : Array Value} (h : w.heap[g]? = some (.cells cs t (0, 0))) (i : Nat) (u : Value) : (w.setCell ⟨g, i, none⟩ u).heap[g]? = some (.cells (cs.setIfInBounds i u) t (0, 0)) := by
  simp [World.setCell, Array.getElem?_modify, h]
theorem blk_far {w : World} {g : Nat} {o : Obj} (h : w.heap[g]? = some o) {p : Addr} (hp : g ≠ p.block) (u : Value) : (w.setCell p u).heap[g]? = some o := (Below.heap_setCell w p u g hp).trans h
theorem blk_grown {w w' : World} {g : Nat} {o : Obj} (h : w.heap[g]? = some o) {row : Option Nat} (hg : w.grownBy w' row) (hne : some g ≠ row) : w'.heap[g]? = some o := (hg.block g (blk_lt h) hne).trans h
theorem blk_drew {w : World} {g : Nat} {o : Obj} (h : w.heap[g]? = some o) : w.drew.heap[g]? = some o := h
theorem blk_drewN {w : World} {g : Nat} {o : Obj} (h : w.heap[g]? = some o) (n : Nat) : (w.drewN n).heap[g]? = some o := h
theorem blk_below {w w' : World} {B g : Nat} {o : Obj} (h : w.heap[g]? = some o) (hb : Below B w w') (hlt : g < B) : w'.heap[g]? = some o := (hb.block g hlt).trans h
theorem own_ne {w : World} {base e size n g : Nat} {v : Value} {xs : List Value} {t : TypeId} {cs : Array Value} (h : w.ownsRow base e size v n xs) (hg : w.heap[g]? = some (.cells cs t (0, 0))) (hne : e ≠ t) : v.ownBlock ≠ some g := by
  rcases h.2 with ⟨rfl, _⟩ | ⟨g', cap, cur, rfl, _, hh, _⟩
  · simp [Value.ownBlock]
  · intro he
    have : g' = g := by simpa [Value.ownBlock] using he
    subst this
    rw [hh] at hg
    injection hg with hg
    injection hg with _ ht
    exact hne ht
theorem own_ne2 {w : World} {base e e' size size' n n' : Nat} {v v' : Value} {xs xs' : List Value} (h : w.ownsRow base e size v n xs) (h' : w.ownsRow base e' size' v' n' xs') (hne : e ≠ e') : v.ownBlock = none ∨ v.ownBlock ≠ v'.ownBlock := by
  rcases h'.2 with ⟨rfl, _⟩ | ⟨g', cap, cur, rfl, _, hh, _⟩
  · cases hv : v.ownBlock
    · exact .inl rfl
    · exact .inr (by simp [Value.ownBlock])
  · exact .inr (own_ne h hh hne)

/-- What a cell holds in a world, as a word that simp does not open: for a cell that a region both loads and stores. -/
def cur (w : World) (a : Addr) : Value := (w.cell? a).getD undef
theorem cur_of {w : World} {a : Addr} {v : Value} (h : w.cell? a = some v) : w.cell? a = some (cur w a) := by simp [cur, h]
theorem cur_eq {w : World} {a : Addr} {v : Value} (h : w.cell? a = some v) : cur w a = v := by simp [cur, h]

/- Only one block has turned. -/
theorem only_drewN {a w : World} {row : Option Nat} (h : a.grownBy w row) (n : Nat) : a.grownBy (w.drewN n) row := ⟨h.os, h.tape, h.output, h.size, h.block⟩
theorem only_drew {a w : World} {row : Option Nat} (h : a.grownBy w row) : a.grownBy w.drew row := ⟨h.os, h.tape, h.output, h.size, h.block⟩
theorem only_alloc {a w : World} {row : Option Nat} (h : a.grownBy w row) (o : Obj) : a.grownBy (w.alloc o) row :=
  ⟨h.os, h.tape, h.output, Nat.le_trans h.size (by simp), fun i hi hne => (Below.heap_alloc w o i (Nat.lt_of_lt_of_le hi h.size)).trans (h.block i hi hne)⟩
theorem only_setCell {a w : World} {g : Nat} (h : a.grownBy w (some g)) {p : Addr} (hp : p.block = g ∨ a.heap.size ≤ p.block) (u : Value) : a.grownBy (w.setCell p u) (some g) :=
  ⟨h.os, h.tape, h.output, by simpa [World.setCell] using h.size, fun i hi hne => (Below.heap_setCell w p u i (by
    rintro rfl
    rcases hp with hp | hp
    · exact hne (by rw [hp])
    · omega)).trans (h.block i hi hne)⟩
/-- A row of the call's own reads as a slice. -/
theorem rd_of_own {w : World} {base e cap n : Nat} {A : Option Addr} {size : Nat} {xs : List Value} (h : w.ownsRow base e size (.slice A n cap) n xs) : Rd w w.heap.size A xs := fun h0 => by
  have hn : 0 < n := by
    rcases Nat.eq_zero_or_pos n with rfl | hp
    · have := h.1; simp at this; subst this; simp at h0
    · exact hp
  rcases h.2 with ⟨hv, hz⟩ | ⟨g, c, cur, hv, hb, hh, _, _, _, ht⟩
  · omega
  · injection hv with hA _ _
    subst hA
    refine ⟨g, 0, rfl, blk_lt hh, fun j u hu => ?_⟩
    rw [Nat.zero_add, blk_cell hh]
    rw [← ht, List.getElem?_take] at hu
    split at hu
    · simpa using hu
    · cases hu

end Go.Proofs.YtoafihjgpbcgbaaGreat
