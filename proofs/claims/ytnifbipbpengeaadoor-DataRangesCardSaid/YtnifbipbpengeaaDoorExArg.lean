/- Opening examples that came in as an argument. Conditions: none. -/
import Derived.Test.YtnifbipbpengeaaDoorLaw
import Derived.Test.YtnifbipbpengeaaDoorEx
namespace Go.Proofs.YtnifbipbpengeaaDoor
open Go.ChangeShapes Go.WideShapes Go.ChangeAt Go.RowKit Go.Deep

theorem cells_any {H : Type} {enc : TypeId × Value → H} {P : Program} {w : World} {base : Nat} {spare : Nat → Bool} {held : Bool} {t : TypeId} {fs : Array Field} {fuel : Nat} {cs : List Value} {y : DataW H × List MemPlace} (hs : P.underlying t = some (.struct fs)) (hone : oneCellFields P fs = true) (hC : P.cellsOf t = fs.size)
    (h : DataW.trod enc P w base spare held fuel t cs = some y) : cs.length = fs.size ∧ ∀ (j : Nat) (f : Field), fs[j]? = some f → ∃ (c : Value) (y : DataW H × List MemPlace) (n : Nat), cs[j]? = some c ∧ DataW.trod enc P w base spare held n f.type [c] = some y := by
  obtain ⟨ys, n, _, hx, hlen, hyl, hg⟩ := DataW.trod_struct hs h
  have hcl : cs.length = fs.size := by rw [hlen, hC]
  refine ⟨hcl, fun j f hj => ?_⟩
  obtain ⟨ho, hk⟩ := hone_of hone j f hj
  have hjl : j < fs.size := (Array.getElem?_eq_some_iff.1 hj).1
  have h1 := hg j f hj
  rw [ho, hk] at h1
  have hd : (cs.drop j).take 1 = [cs[j]'(by omega)] := by
    rw [List.drop_eq_getElem_cons (by omega)]
    rfl
  rw [hd, List.getElem?_eq_getElem (by omega)] at h1
  exact ⟨_, _, n, List.getElem?_eq_getElem (by omega), h1⟩

theorem Tryd.cellsEx : Tryd.prog.cellsOf 30 = 2 := by kernel_rfl
theorem Tryd.cellsInt64 : Tryd.prog.cellsOf 2 = 1 := by kernel_rfl

section
variable {H : Type} {enc : TypeId × Value → H} {w : World} {base : Nat} {spare : Nat → Bool} {held : Bool}

/-- The two cells of an example. -/
theorem cells_ex {fuel : Nat} {cs : List Value} {y : DataW H × List MemPlace} (h : DataW.trod enc Tryd.prog w base spare held fuel 30 cs = some y) : ∃ e : Ex, cs = e.cells ∧ RdX w w.heap.size e := by
  obtain ⟨hlen, hcs⟩ := cells_any Tryd.underlying30 (by kernel_rfl) (by kernel_rfl) h
  match cs, hlen with
  | [a0, a1], _ =>
    obtain ⟨c0, y0, n0, e0, t0⟩ := hcs 0 _ rfl
    obtain ⟨c1, y1, n1, e1, t1⟩ := hcs 1 _ rfl
    obtain ⟨A, zs, cap, rfl, hcap, hm, hr, _⟩ := open_slice_int Tryd.underlying28 Tryd.underlying2 Tryd.cellsInt64 t0
    obtain ⟨B, zs', cap', rfl, hcap', hm', hr', _⟩ := open_slice_int Tryd.underlying28 Tryd.underlying2 Tryd.cellsInt64 t1
    simp at e0 e1
    subst e0 e1
    exact ⟨⟨A, zs, cap, B, zs', cap'⟩, rfl, hr, hr', hcap, hcap', hm, hm'⟩

theorem choose_list {α : Type} (n : Nat) (p : Nat → α → Prop) (h : ∀ i, i < n → ∃ x, p i x) : ∃ l : List α, l.length = n ∧ ∀ i x, l[i]? = some x → p i x := by
  induction n with
  | zero => exact ⟨[], rfl, by simp⟩
  | succ n ih =>
    obtain ⟨l, hl, hp⟩ := ih fun i hi => h i (by omega)
    obtain ⟨x, hx⟩ := h n (by omega)
    refine ⟨l ++ [x], by simp [hl], fun i y hy => ?_⟩
    rcases Nat.lt_or_ge i n with hlt | hge
    · rw [List.getElem?_append_left (by omega)] at hy
      exact hp i y hy
    · rw [List.getElem?_append_right (by omega)] at hy
      have : i = n := by
        rcases Nat.lt_or_ge (i - l.length) 1 with h1 | h1
        · omega
        · rw [List.getElem?_eq_none (by simpa using h1)] at hy; cases hy
      subst this
      simp [hl] at hy
      subst hy
      exact hx

/-- A cell that is a slice of examples. -/
theorem open_exs {fuel : Nat} {c : Value} {y : DataW H × List MemPlace} (h : DataW.trod enc Tryd.prog w base spare held fuel 22 [c] = some y) :
    ∃ (A : Option Addr) (l : List Ex) (cap : Nat), c = .slice A l.length cap ∧ l.length ≤ cap ∧ l.length ≤ 9223372036854775807 ∧ RdE w w.heap.size A l := by
  rcases open_slice Tryd.underlying22 h with ⟨hcs, hx⟩ | ⟨a, len, cap, m, n, D, Pl, hcs, hb, hl, hm, hmm, hx, hi⟩
  · injection hcs with hcs _
    exact ⟨none, [], 0, hcs, by simp, by simp, Rd.nil_ _ _ _, by simp⟩
  · injection hcs with hcs _
    unfold maxLen at hm
    have hlm : len ≤ m := by rw [hmm]; split <;> omega
    have hex : ∀ i, i < len → ∃ e : Ex, w.cell? (a.add (i * 2)) = some (.slice e.ax e.xs.length e.cx) ∧ w.cell? (a.add (i * 2 + 1)) = some (.slice e.ay e.ys.length e.cy) ∧ RdX w w.heap.size e := fun i hil => by
      obtain ⟨cs', hc, ht⟩ := hi i (by omega)
      rw [Tryd.cellsEx] at hc
      obtain ⟨e, rfl, hX⟩ := cells_ex ht
      obtain ⟨_, _, hat⟩ := World.cells?_some hc
      have h0 := hat 0 (by omega)
      have h1 := hat 1 (by omega)
      rw [Go.Deep.add_add] at h0 h1
      exact ⟨e, h0.trans rfl, h1.trans rfl, hX⟩
    obtain ⟨l, hll, hpl⟩ := choose_list len _ hex
    refine ⟨some a, l, cap, by rw [hll]; exact hcs, by omega, by omega, fun h0 => ?_, fun e he => ?_⟩
    · rw [exCells_len] at h0
      have hl0 : 0 < l.length := by omega
      obtain ⟨e0, he0⟩ := get_some l 0 hl0
      have c0 := (hpl 0 e0 he0).1
      obtain ⟨b, off, spot⟩ := a
      have hsp : spot = none := by
        cases spot with
        | none => rfl
        | some s =>
          simp only [Nat.zero_mul, Addr.add, if_true, World.cell?] at c0
          split at c0 <;> simp at c0
      subst hsp
      have hadd : ∀ j, (⟨b, off, none⟩ : Addr).add j = ⟨b, off + j, none⟩ := fun j => by unfold Addr.add; split <;> simp_all
      refine ⟨b, off, rfl, World.block_lt_of_cell? w _ (by simpa [Addr.add] using c0), fun j u hu => ?_⟩
      have hj : j < 2 * l.length := by rw [← exCells_len]; exact (List.getElem?_eq_some_iff.1 hu).1
      obtain ⟨e, he⟩ := get_some l (j / 2) (by omega)
      have hp := hpl _ e he
      have ha := exCells_at l _ e he
      rw [hadd, hadd] at hp
      rcases Nat.mod_two_eq_zero_or_one j with hz | hz
      · have e2 : 2 * (j / 2) = j := by omega
        rw [e2] at ha
        rw [show j / 2 * 2 = j from by omega] at hp
        rw [hp.1, ← hu, ha.1]
      · have e2 : 2 * (j / 2) + 1 = j := by omega
        rw [e2] at ha
        rw [show j / 2 * 2 + 1 = j from by omega] at hp
        rw [hp.2.1, ← hu, ha.2]
    · obtain ⟨i, hi'⟩ := List.getElem?_of_mem he
      exact (hpl i e hi').2.2



end

theorem open_arg_slice {H : Type} {enc : TypeId × Value → H} {P : Program} {w : World} {base b0 : Nat} {spare : Nat → Bool} {held : Bool} {r : Reach} {t e : TypeId} {v : Value} {d : DataW H} {p : List MemPlace} (ht : P.underlying t = some (.slice e))
    (hv : Value.okWide P w r b0 t v) (h : DataW.Trod enc P w base spare held t v d p) : ∃ (fuel : Nat), DataW.trod enc P w base spare held fuel t [v] = some (d, p) := by
  obtain ⟨a, n, c, rfl⟩ := okWide_slice ht hv
  obtain ⟨fuel, hf⟩ := h
  exact ⟨fuel, hf⟩

set_option maxRecDepth 100000 in
theorem open_arg_exs {H : Type} {enc : TypeId × Value → H} {w : World} {base b0 : Nat} {spare : Nat → Bool} {held : Bool} {r : Reach} {v : Value} {d : DataW H} {p : List MemPlace}
    (hv : Value.okWide Tryd.prog w r b0 22 v) (h : DataW.Trod enc Tryd.prog w base spare held 22 v d p) :
    ∃ (A : Option Addr) (l : List Ex) (cap : Nat), v = .slice A l.length cap ∧ l.length ≤ cap ∧ l.length ≤ 9223372036854775807 ∧ RdE w w.heap.size A l :=
  let ⟨_, hf⟩ := open_arg_slice Tryd.underlying22 hv h
  open_exs hf

end Go.Proofs.YtnifbipbpengeaaDoor
