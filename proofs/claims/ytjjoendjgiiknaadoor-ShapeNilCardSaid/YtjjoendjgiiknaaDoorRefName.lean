/- Walks: the reference's Name and Index. Conditions: none. -/
import Derived.Test.YtjjoendjgiiknaaDoorRefPlaces
import Derived.BigQuiet
namespace Go.Proofs.YtjjoendjgiiknaaDoor
open Go.RowKit

theorem number08_any (n : Nat) (h : n < 9223372036854775808) (w : World) : Calls Tryd.prog 36 #[.int .i64 n] w fun e w' => e = .returned (.string ⟨(Lib.decDigits n).toArray⟩) ∧ w' = w := by
  have HU := Lib.hid (unsigned_any n w (by omega))
  have hw : IntKind.u64.wrap (n : Int) = (n : Int) := by rw [IntKind.wrap_u64]; omega
  go_enter Tryd.func36, Tryd.ntmps36
  go_wp2_with fail
  (with_reducible refine HU.out.mono ?_)
  rintro e w1 ⟨rfl, rfl⟩
  go_wp2_with fail
  go_ret
  exact ⟨rfl, rfl⟩

theorem pts2 (k r : Int) : ptsL [k, r] = Lib.itoa k ++ 46 :: Lib.itoa r := by
  unfold ptsL
  rw [List.map_cons, Lib.join_cons]
  simp [Lib.joinTail]
theorem pts3 (k r c : Int) : ptsL [k, r, c] = Lib.itoa k ++ 46 :: (Lib.itoa r ++ 46 :: Lib.itoa c) := by
  unfold ptsL
  rw [List.map_cons, Lib.join_cons]
  simp [Lib.joinTail]

theorem name_b (k r : Nat) (p : Pl) (h : p = ⟨k, r, -1⟩) : (⟨#[98]⟩ : ByteArray) ++ ⟨(Lib.decDigits k).toArray⟩ ++ ⟨#[46]⟩ ++ ⟨(Lib.decDigits r).toArray⟩ = ⟨(nameL p).toArray⟩ := by
  subst h
  unfold nameL headC numL
  dsimp only
  rw [if_pos (by decide), if_pos (by decide), pts2, itoa_pos (by omega), itoa_pos (by omega)]
  simp only [Int.toNat_natCast]
  rw [show (⟨#[98]⟩ : ByteArray) = ⟨([98] : List UInt8).toArray⟩ from rfl, show (⟨#[46]⟩ : ByteArray) = ⟨([46] : List UInt8).toArray⟩ from rfl]
  simp only [list_app]
  congr 2
  simp
theorem name_w (k r c : Nat) (p : Pl) (h : p = ⟨k, r, c⟩) : (⟨#[119]⟩ : ByteArray) ++ ⟨(Lib.decDigits k).toArray⟩ ++ ⟨#[46]⟩ ++ ⟨(Lib.decDigits r).toArray⟩ ++ ⟨#[46]⟩ ++ ⟨(Lib.decDigits c).toArray⟩ = ⟨(nameL p).toArray⟩ := by
  subst h
  unfold nameL headC numL
  dsimp only
  rw [if_neg (by omega), if_neg (by omega), pts3, itoa_pos (by omega), itoa_pos (by omega), itoa_pos (by omega)]
  simp only [Int.toNat_natCast]
  rw [show (⟨#[119]⟩ : ByteArray) = ⟨([119] : List UInt8).toArray⟩ from rfl, show (⟨#[46]⟩ : ByteArray) = ⟨([46] : List UInt8).toArray⟩ from rfl]
  simp only [list_app]
  congr 2
  simp

def PlOk (p : Pl) : Prop := (0 ≤ p.k ∧ p.k ≤ 1048576) ∧ (0 ≤ p.r ∧ p.r ≤ 1048576) ∧ -1 ≤ p.c ∧ p.c ≤ 1048576
theorem place_ok {zs : List Int} (h : ShOk zs) {i : Int} {p : Pl} (hp : PlaceIs zs i p) : PlOk p := by
  obtain ⟨_, h1, h2, h3, h4, h5, h6⟩ := idx_place h hp
  have := h.2.1
  exact ⟨⟨h1, by omega⟩, ⟨h3, h4⟩, h5, h6⟩

set_option maxRecDepth 100000 in
set_option maxHeartbeats 4000000 in
theorem refName_any (p : Pl) (hp : PlOk p) (w : World) : Calls Tryd.prog 26 #[.agg #[.int .i64 p.k, .int .i64 p.r, .int .i64 p.c]] w fun e w' => e = .returned (.string ⟨(nameL p).toArray⟩) ∧ Below w.heap.size w w' := by
  obtain ⟨k, r, c⟩ := p
  obtain ⟨⟨hk0, hk⟩, ⟨hr0, hr⟩, hc0, hc⟩ := hp
  dsimp only at hk0 hk hr0 hr hc0 hc ⊢
  obtain ⟨k, rfl⟩ := Int.eq_ofNat_of_zero_le hk0
  obtain ⟨r, rfl⟩ := Int.eq_ofNat_of_zero_le hr0
  have HNk := Lib.hid (fun W => number08_any k (by omega) W)
  have HNr := Lib.hid (fun W => number08_any r (by omega) W)
  have lk := dec_len k (by omega)
  have lr := dec_len r (by omega)
  have sz : ∀ l : List UInt8, (⟨l.toArray⟩ : ByteArray).size = l.length := fun l => by simp [ByteArray.size]
  have HB := Lib.hid ((Below.refl w.heap.size w).alloc (Nat.le_refl _) (.cells #[.int .i64 k, .int .i64 r, .int .i64 c] 49))
  by_cases hcn : c < 0
  · obtain rfl : c = -1 := by omega
    have hT := name_b k r _ rfl
    obtain ⟨A, hA⟩ : ∃ A : ByteArray, ⟨(Lib.decDigits k).toArray⟩ = A := ⟨_, rfl⟩
    obtain ⟨B, hB⟩ : ∃ A : ByteArray, ⟨(Lib.decDigits r).toArray⟩ = A := ⟨_, rfl⟩
    have sA : A.size ≤ 20 := by rw [← hA, sz]; exact lk
    have sB : B.size ≤ 20 := by rw [← hB, sz]; exact lr
    rw [hA, hB] at hT
    rw [hA] at HNk
    rw [hB] at HNr
    have HT := Lib.hid hT
    clear hT hA hB lk lr sz
    go_enter Tryd.func26, Tryd.ntmps26
    go_wp2_with fail
    go_quiet (first
      | (go_at_call 36; exact Calls.quiet_of_same (HNk.out _))
      | (go_at_call 36; exact Calls.quiet_of_same (HNr.out _)))
    go_wp2_with fail
    go_ret
    exact ⟨by rw [← HT.out]; rfl, below_drewN HB.out _⟩
  · obtain ⟨c, rfl⟩ := Int.eq_ofNat_of_zero_le (a := c) (by omega)
    have HNc := Lib.hid (fun W => number08_any c (by omega) W)
    have lc := dec_len c (by omega)
    have hT := name_w k r c _ rfl
    obtain ⟨A, hA⟩ : ∃ A : ByteArray, ⟨(Lib.decDigits k).toArray⟩ = A := ⟨_, rfl⟩
    obtain ⟨B, hB⟩ : ∃ A : ByteArray, ⟨(Lib.decDigits r).toArray⟩ = A := ⟨_, rfl⟩
    obtain ⟨C, hC⟩ : ∃ A : ByteArray, ⟨(Lib.decDigits c).toArray⟩ = A := ⟨_, rfl⟩
    have sA : A.size ≤ 20 := by rw [← hA, sz]; exact lk
    have sB : B.size ≤ 20 := by rw [← hB, sz]; exact lr
    have sC : C.size ≤ 20 := by rw [← hC, sz]; exact lc
    rw [hA, hB, hC] at hT
    rw [hA] at HNk
    rw [hB] at HNr
    rw [hC] at HNc
    have HT := Lib.hid hT
    clear hT hA hB hC lk lr lc sz
    go_enter Tryd.func26, Tryd.ntmps26
    go_wp2_with fail
    go_quiet (first
      | (go_at_call 36; exact Calls.quiet_of_same (HNk.out _))
      | (go_at_call 36; exact Calls.quiet_of_same (HNr.out _))
      | (go_at_call 36; exact Calls.quiet_of_same (HNc.out _)))
    go_wp2_with fail
    go_ret
    exact ⟨by rw [← HT.out]; rfl, below_drewN HB.out _⟩

theorem nameL_inj {p q : Pl} (hp : PlOk p) (hq : PlOk q) (h : nameL p = nameL q) : p = q := by
  obtain ⟨k, r, c⟩ := p
  obtain ⟨k', r', c'⟩ := q
  unfold PlOk at hp hq
  unfold nameL at h
  dsimp only at hp hq
  have hw : ∀ (k r c : Int), (0 ≤ k ∧ 0 ≤ r ∧ -1 ≤ c) → ∀ l, l = numL ⟨k, r, c⟩ → cutAt 46 (ptsL l) = l.map Lib.itoa := fun k r c _ l hl => by
    unfold ptsL
    cases l with
    | nil => unfold numL at hl; split at hl <;> simp at hl
    | cons x m =>
      rw [List.map_cons]
      refine cutAt_join 46 _ _ fun y hy b hb => ?_
      rw [← List.map_cons] at hy
      obtain ⟨z, _, rfl⟩ := List.mem_map.1 hy
      exact itoa_free z b hb
  rw [List.cons.injEq] at h
  have e := congrArg (cutAt 46) h.2
  rw [hw k r c (by omega) _ rfl, hw k' r' c' (by omega) _ rfl] at e
  have h1 := h.1
  unfold headC at h1
  unfold numL at e
  dsimp only at h1 e
  by_cases c1 : c < 0 <;> by_cases c2 : c' < 0
  · rw [if_pos c1, if_pos c2] at e
    simp only [List.map_cons, List.map_nil, List.cons.injEq, and_true] at e
    have a1 := itoa_inj (by omega) (by omega) e.1
    have a2 := itoa_inj (by omega) (by omega) e.2
    simp only [Pl.mk.injEq]
    omega
  · rw [if_pos c1, if_neg c2] at h1
    exact absurd h1 (by decide)
  · rw [if_neg c1, if_pos c2] at h1
    exact absurd h1 (by decide)
  · rw [if_neg c1, if_neg c2] at e
    simp only [List.map_cons, List.map_nil, List.cons.injEq, and_true] at e
    have a1 := itoa_inj (by omega) (by omega) e.1
    have a2 := itoa_inj (by omega) (by omega) e.2.1
    have a3 := itoa_inj (by omega) (by omega) e.2.2
    simp only [Pl.mk.injEq]
    omega

/-- Name l is that of index i. -/
def NamedAt (zs : List Int) (l : List UInt8) (i : Nat) : Prop := ∃ p, (places zs)[i]? = some p ∧ l = nameL p
theorem named_same {zs : List Int} (h : ShOk zs) {l : List UInt8} {i j : Nat} (hi : NamedAt zs l i) (hj : NamedAt zs l j) : i = j := by
  obtain ⟨p, hp, rfl⟩ := hi
  obtain ⟨q, hq, e⟩ := hj
  have h1 := places_get h hp
  have h2 := places_get h hq
  have := nameL_inj (place_ok h h1) (place_ok h h2) e
  subst this
  have e1 := (idx_place h h1).1
  have e2 := (idx_place h h2).1
  omega

def IdxPost (zs : List Int) (l : List UInt8) (w : World) (e : Ending) (w' : World) : Prop :=
  ((∃ i : Nat, NamedAt zs l i ∧ e = .returned (.tuple #[.int .i64 i, .bool true])) ∨ ((∀ i, ¬ NamedAt zs l i) ∧ e = .returned (.tuple #[.int .i64 0, .bool false]))) ∧ Below w.heap.size w w'

theorem plFlat_at : ∀ (l : List Pl) (k : Nat) (p : Pl), l[k]? = some p → (plFlat l)[k * 3]? = some (.int .i64 p.k) ∧ (plFlat l)[k * 3 + 1]? = some (.int .i64 p.r) ∧ (plFlat l)[k * 3 + 2]? = some (.int .i64 p.c)
  | [], k, p, h => by simp at h
  | x :: l, 0, p, h => by
    simp at h; subst h
    exact ⟨rfl, rfl, rfl⟩
  | x :: l, k + 1, p, h => by
    have ih := plFlat_at l k p (by simpa using h)
    have e : plFlat (x :: l) = plCells x ++ plFlat l := rfl
    have hl : (plCells x).length = 3 := rfl
    rw [e, List.getElem?_append_right (by omega), List.getElem?_append_right (by omega), List.getElem?_append_right (by omega), hl]
    rw [show (k + 1) * 3 - 3 = k * 3 by omega, show (k + 1) * 3 + 1 - 3 = k * 3 + 1 by omega, show (k + 1) * 3 + 2 - 3 = k * 3 + 2 by omega]
    exact ih

theorem ownP_cells {w : World} {B n cap : Nat} {A : Option Addr} {l : List Pl} (h : OwnP w B (.slice A n cap) l) (h0 : 0 < l.length) : ∃ g, A = some ⟨g, 0, none⟩ ∧ g < w.heap.size ∧ ∀ (k : Nat) (p : Pl), l[k]? = some p → w.cell? ⟨g, k * 3, none⟩ = some (.int .i64 p.k) ∧ w.cell? ⟨g, k * 3 + 1, none⟩ = some (.int .i64 p.r) ∧ w.cell? ⟨g, k * 3 + 2, none⟩ = some (.int .i64 p.c) := by
  rcases h.2 with ⟨hv, hz⟩ | ⟨g, c, cur, hv, hb, hh, _, _, _, ht⟩
  · rw [hz] at h0
    exact absurd h0 (by decide)
  · injection hv with hA _ _
    subst hA
    refine ⟨g, rfl, blk_lt hh, fun k p hp => ?_⟩
    have hat : ∀ j u, (plFlat l)[j]? = some u → w.cell? ⟨g, j, none⟩ = some u := fun j u hu => by
      rw [← ht, List.getElem?_take] at hu
      split at hu
      · rw [blk_cell hh]; simpa using hu
      · cases hu
    have hf := plFlat_at l k p hp
    exact ⟨hat _ _ hf.1, hat _ _ hf.2.1, hat _ _ hf.2.2⟩

end Go.Proofs.YtjjoendjgiiknaaDoor
