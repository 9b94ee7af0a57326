/- A world that has turned in some blocks alone; numbers of the call's own that are written in place. Conditions: none. -/
import Derived.Test.YtjjoendjgiiknaaDoorEx
import Derived.Test.YtjjoendjgiiknaaDoorOwn
namespace Go.Proofs.YtjjoendjgiiknaaDoor
open Go.RowKit

/-- Outside the blocks from lo up to hi nothing has turned, and no block is new. -/
structure Within (lo hi : Nat) (w w' : World) : Prop where
  os : w'.os = w.os
  tape : w'.tape = w.tape
  output : w'.output = w.output
  size : w'.heap.size = w.heap.size
  block : ∀ k, k < lo ∨ hi ≤ k → w'.heap[k]? = w.heap[k]?

theorem Within.refl (lo hi : Nat) (w : World) : Within lo hi w w := ⟨rfl, rfl, rfl, rfl, fun _ _ => rfl⟩
theorem Within.trans {lo hi : Nat} {a b c : World} (h : Within lo hi a b) (k : Within lo hi b c) : Within lo hi a c :=
  ⟨k.os.trans h.os, k.tape.trans h.tape, k.output.trans h.output, k.size.trans h.size, fun i hi => (k.block i hi).trans (h.block i hi)⟩
theorem Within.drewN {lo hi : Nat} {a w : World} (h : Within lo hi a w) (n : Nat) : Within lo hi a (w.drewN n) := ⟨h.os, h.tape, h.output, h.size, h.block⟩
theorem Within.drew {lo hi : Nat} {a w : World} (h : Within lo hi a w) : Within lo hi a w.drew := ⟨h.os, h.tape, h.output, h.size, h.block⟩
theorem Within.setCell {lo hi : Nat} {a w : World} (h : Within lo hi a w) {p : Addr} (hp : lo ≤ p.block ∧ p.block < hi) (u : Value) : Within lo hi a (w.setCell p u) :=
  h.trans ⟨rfl, rfl, rfl, by simp [World.setCell], fun k hk => Below.heap_setCell _ _ _ _ (by omega)⟩
theorem Within.below {lo hi B : Nat} {a w : World} (h : Within lo hi a w) (hB : B ≤ lo) : Below B a w := ⟨h.os, h.tape, h.output, Nat.le_of_eq h.size.symm, fun k hk => h.block k (.inl (by omega))⟩
theorem Within.own {lo hi : Nat} {a w : World} (h : Within lo hi a w) {base e size n : Nat} {v : Value} {xs : List Value} (ho : a.ownsRow base e size v n xs) (hb : hi ≤ base) : w.ownsRow base e size v n xs := by
  rcases ho.2 with ⟨rfl, h0⟩ | ⟨g, cap, cur, rfl, hg, hgh, h1⟩
  · exact ⟨ho.1, .inl ⟨rfl, h0⟩⟩
  · exact ⟨ho.1, .inr ⟨g, cap, cur, rfl, hg, (h.block g (.inr (by omega))).trans hgh, h1⟩⟩

/-- Numbers of the call's own, in a block from lo up to hi that is not the block g: cells that may be written. -/
def OwnN (w : World) (lo hi g : Nat) (A : Option Addr) (n : Nat) : Prop :=
  0 < n → ∃ b off, A = some ⟨b, off, none⟩ ∧ lo ≤ b ∧ b ≠ g ∧ b < hi ∧ ∀ j, j < n → (∃ z, w.cell? ⟨b, off + j, none⟩ = some (.int .i64 z)) ∧ w.frozen? ⟨b, off + j, none⟩ = false

theorem frozen_set {w : World} {p q : Addr} (u : Value) (hp : w.frozen? q = false) : (w.setCell p u).frozen? q = false := by
  by_cases hb : q.block = p.block
  · rw [show (w.setCell p u).frozen? q = w.frozen? q from by
      simp only [World.frozen?, World.setCell, Array.getElem?_modify, hb, if_true]
      cases w.heap[p.block]? with
      | none => rfl
      | some o => cases o <;> rfl]
    exact hp
  · rw [World.frozen?_of_block (w := w) (Below.heap_setCell w p u q.block hb)]
    exact hp

theorem OwnN.set {w : World} {lo hi g n : Nat} {A : Option Addr} (h : OwnN w lo hi g A n) (b off : Nat) (z : Int) : OwnN (w.setCell ⟨b, off, none⟩ (.int .i64 z)) lo hi g A n := fun h0 => by
  obtain ⟨b', off', e, h1, h2, h3, hc⟩ := h h0
  refine ⟨b', off', e, h1, h2, h3, fun j hj => ⟨?_, frozen_set _ (hc j hj).2⟩⟩
  obtain ⟨y, hy⟩ := (hc j hj).1
  by_cases hp : (⟨b', off' + j, none⟩ : Addr) = ⟨b, off, none⟩
  · rw [hp]
    rw [hp] at hy
    exact ⟨z, World.cell?_setCell_same w _ _ hy⟩
  · exact ⟨y, (World.cell?_setCell_other w _ _ _ (fun e => hp e.symm)).trans hy⟩
theorem OwnN.below {w w' : World} {lo hi g n : Nat} {A : Option Addr} (h : OwnN w lo hi g A n) {B : Nat} (hB : hi ≤ B) (hb : Below B w w') : OwnN w' lo hi g A n := fun h0 => by
  obtain ⟨b', off', e, h1, h2, h3, hc⟩ := h h0
  refine ⟨b', off', e, h1, h2, h3, fun j hj => ?_⟩
  obtain ⟨⟨z, hz⟩, hf⟩ := hc j hj
  exact ⟨⟨z, (hb.cell (p := ⟨b', off' + j, none⟩) (by dsimp only; omega)).trans hz⟩, (hb.frozen (p := ⟨b', off' + j, none⟩) (by dsimp only; omega)).trans hf⟩

theorem ownN_of {w : World} {base e n cap g t : Nat} {A : Option Addr} {zs : List Int} {cs : Array Value} (h : w.ownsRow base e 1 (.slice A n cap) n (zs.map (Value.int .i64))) (hg : w.heap[g]? = some (.cells cs t (0, 0))) (hne : e ≠ t) : OwnN w base w.heap.size g A n := fun h0 => by
  have hgn := own_ne h hg hne
  rcases h.2 with ⟨hv, hz⟩ | ⟨g', c, cur, hv, hb, hh, _, _, _, ht⟩
  · omega
  · injection hv with hA _ _
    subst hA
    refine ⟨g', 0, rfl, hb, fun he => hgn (by rw [he]; rfl), blk_lt hh, fun j hj => ⟨?_, blk_frozen hh _⟩⟩
    have hl : (zs.map (Value.int .i64)).length = n := by have := h.1; simpa using this
    have hz : j < zs.length := by simpa using (by omega : j < (zs.map (Value.int .i64)).length)
    refine ⟨zs[j], ?_⟩
    rw [Nat.zero_add, blk_cell hh]
    have hu : (zs.map (Value.int .i64))[j]? = some (.int .i64 zs[j]) := by simp [hz]
    rw [← ht, List.getElem?_take] at hu
    split at hu
    · simpa using hu
    · cases hu

/-- Examples of the call's own (their outer block is g) whose numbers may have been written since the world wm. -/
structure Bump (lo hi g : Nat) (L : List Ex) (wm wr : World) : Prop where
  within : Within lo hi wm wr
  nums : ∀ e ∈ L, OwnN wr lo hi g e.ax e.xs.length ∧ OwnN wr lo hi g e.ay e.ys.length
  outer : ∀ (k : Nat) (e : Ex), L[k]? = some e → wr.cell? ⟨g, k * 2, none⟩ = some (.slice e.ax e.xs.length e.cx) ∧ wr.cell? ⟨g, k * 2 + 1, none⟩ = some (.slice e.ay e.ys.length e.cy)

theorem Bump.set {lo hi g : Nat} {L : List Ex} {wm wr : World} (h : Bump lo hi g L wm wr) {b : Nat} (hb : lo ≤ b ∧ b < hi) (hg : b ≠ g) (off : Nat) (z : Int) : Bump lo hi g L wm (wr.setCell ⟨b, off, none⟩ (.int .i64 z)) :=
  ⟨h.within.setCell hb _, fun e he => ⟨(h.nums e he).1.set b off z, (h.nums e he).2.set b off z⟩, fun k e hk => by
    have := h.outer k e hk
    have hne : ∀ o, (⟨b, off, none⟩ : Addr) ≠ ⟨g, o, none⟩ := fun o e => hg (by injection e)
    exact ⟨(World.cell?_setCell_other wr _ _ _ (hne _)).trans this.1, (World.cell?_setCell_other wr _ _ _ (hne _)).trans this.2⟩⟩

end Go.Proofs.YtjjoendjgiiknaaDoor
