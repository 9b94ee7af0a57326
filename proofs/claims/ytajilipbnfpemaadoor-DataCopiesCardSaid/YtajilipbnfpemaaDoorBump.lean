/- Copies of examples as arguments, and as memory that is written. Conditions: none. -/
import Derived.Test.YtajilipbnfpemaaDoorRefClone
import Derived.Test.YtajilipbnfpemaaDoorSameAll
namespace Go.Proofs.YtajilipbnfpemaaDoor
open Go.RowKit

theorem rdE_of_copies {B n cap : Nat} {w : World} {A : Option Addr} {l L : List Ex} (h : Copies B w (.slice A n cap) l L) (hn : n = L.length) (hl : ∀ ex ∈ l, ex.xs.length ≤ 1099511627776 ∧ ex.ys.length ≤ 1099511627776) : RdE w w.heap.size A L := by
  subst hn
  refine ⟨rd_of_own h.2.1, fun c hc => ?_⟩
  obtain ⟨i, hi⟩ := List.getElem?_of_mem hc
  have hil : i < L.length := (List.getElem?_eq_some_iff.1 hi).1
  obtain ⟨e, he⟩ := get_some l i (by rw [← h.1]; exact hil)
  obtain ⟨h1, h2, h3, h4⟩ := h.2.2 i e c he hi
  have hle := hl e (List.mem_of_getElem? he)
  exact ⟨rd_of_own h3, rd_of_own h4, own_cap h3, own_cap h4, by rw [h1]; omega, by rw [h2]; omega⟩

theorem Copies.within {lo hi B : Nat} {a w : World} {v : Value} {l L : List Ex} (h : Copies B a v l L) (hw : Within lo hi a w) (hB : hi ≤ B) : Copies B w v l L :=
  ⟨h.1, hw.own h.2.1 hB, fun i e c he hc => let k := h.2.2 i e c he hc; ⟨k.1, k.2.1, hw.own k.2.2.1 hB, hw.own k.2.2.2 hB⟩⟩

/-- What copies are, as memory that may be written. -/
theorem bump_start {B cap : Nat} {w wm : World} {A : Option Addr} {l L : List Ex} (h : Copies B w (.slice A L.length cap) l L) (h0 : 0 < L.length) (hb : Below w.heap.size w wm) :
    ∃ g, A = some ⟨g, 0, none⟩ ∧ Bump B w.heap.size g L wm wm := by
  rcases h.2.1.2 with ⟨hv, hz⟩ | ⟨g, c, cur, hv, hg, hh, _, _, _, ht⟩
  · injection hv with _ h1 _; omega
  · injection hv with hA _ _
    subst hA
    refine ⟨g, rfl, Within.refl _ _ _, fun e he => ?_, fun k e hk => ?_⟩
    · obtain ⟨i, hi⟩ := List.getElem?_of_mem he
      have hil : i < L.length := (List.getElem?_eq_some_iff.1 hi).1
      obtain ⟨x, hx⟩ := get_some l i (by rw [← h.1]; exact hil)
      obtain ⟨_, _, h3, h4⟩ := h.2.2 i x e hx hi
      exact ⟨(ownN_of h3 hh (by decide)).below (Nat.le_refl _) hb, (ownN_of h4 hh (by decide)).below (Nat.le_refl _) hb⟩
    · have hc := exCells_at L k e hk
      have hat : ∀ j u, (exCells L)[j]? = some u → wm.cell? ⟨g, j, none⟩ = some u := fun j u hu => by
        rw [← ht, List.getElem?_take] at hu
        split at hu
        · rw [hb.cell (p := ⟨g, j, none⟩) (blk_lt hh), blk_cell hh]
          simpa using hu
        · cases hu
      rw [Nat.mul_comm]
      exact ⟨hat _ _ hc.1, hat _ _ hc.2⟩

theorem sel_same {l L : List Ex} {idx : List Int} {p q : List Ex} (hL : L.length = l.length) (hs : SameL L l) (hp : Sel L idx p) (hq : Sel l idx q) : SameL p q := by
  have hle : ∀ {a b : List Ex} {x y : List Ex}, a.length = b.length → Sel a idx x → Sel b idx y → ¬ x.length < y.length := fun {a b x y} hab hx hy hlt => by
    obtain ⟨e, he⟩ := get_some y x.length hlt
    obtain ⟨i, hi⟩ := get_some idx x.length (by have := hy.1; omega)
    have h1 := hx.2.2 i hi
    have h2 := hy.2.1 x.length i e hi he
    have h3 := (List.getElem?_eq_some_iff.1 h2.2).1
    omega
  refine ⟨?_, fun k e f he hf => ?_⟩
  · have h1 := hle hL hp hq
    have h2 := hle hL.symm hq hp
    omega
  · have hk := (List.getElem?_eq_some_iff.1 he).1
    obtain ⟨i, hi⟩ := get_some idx k (by have := hp.1; omega)
    exact hs.2 i.toNat e f (hp.2.1 k i e hi he).2 (hq.2.1 k i f hi hf).2

theorem same_of_copies {B : Nat} {w : World} {v : Value} {l L : List Ex} (h : Copies B w v l L) : SameL L l :=
  ⟨h.1, fun k c e hc he => ⟨(h.2.2 k e c he hc).1, (h.2.2 k e c he hc).2.1⟩⟩
theorem SameL.trans {a b c : List Ex} (h : SameL a b) (k : SameL b c) : SameL a c :=
  ⟨h.1.trans k.1, fun i e f he hf => by
    obtain ⟨x, hx⟩ := get_some b i (by rw [← h.1]; exact (List.getElem?_eq_some_iff.1 he).1)
    exact ⟨(h.2 i e x he hx).1.trans (k.2 i x f hx hf).1, (h.2 i e x he hx).2.trans (k.2 i x f hx hf).2⟩⟩

theorem sel_mem {l : List Ex} {idx : List Int} {p : List Ex} (h : Sel l idx p) {e : Ex} (he : e ∈ p) : e ∈ l := by
  obtain ⟨k, hk⟩ := List.getElem?_of_mem he
  obtain ⟨i, hi⟩ := get_some idx k (by have := (List.getElem?_eq_some_iff.1 hk).1; have := h.1; omega)
  exact List.mem_of_getElem? (h.2.1 k i e hi hk).2

/-- A row of the call's own that holds examples of elsewhere. -/
theorem rdE_of_row {base cap : Nat} {w : World} {A : Option Addr} {p : List Ex} (h : w.ownsRow base 46 2 (.slice A p.length cap) p.length (exCells p)) (hp : ∀ e ∈ p, RdX w w.heap.size e) : RdE w w.heap.size A p := ⟨rd_of_own h, hp⟩

end Go.Proofs.YtajilipbnfpemaaDoor
