/- Plain Lean: what the reference makes of an example's words. Conditions: none. -/
import Derived.Test.YtajilipbnfpemaaDoorDataNums
import Derived.Test.YtajilipbnfpemaaDoorOwn
namespace Go.Proofs.YtajilipbnfpemaaDoor
open Go.RowKit

/-- The reference's way through the words. -/
noncomputable def goS (q : Int) : List (List UInt8) → Bool → List Int → List Int → Option (List Int × List Int)
  | [], _, xs, ys => some (xs, ys)
  | w :: W, r, xs, ys =>
    if w = [62] ∧ r = false then goS q W true xs ys
    else if (parseS w q).2 = true then (if r = true then goS q W r xs (ys ++ [(parseS w q).1]) else goS q W r (xs ++ [(parseS w q).1]) ys)
    else none

theorem goS_in {q : Nat} (hq : q ≤ 62) : ∀ {W : List (List UInt8)} {r : Bool} {xs ys us vs : List Int}, goS q W r xs ys = some (us, vs) → (∀ x ∈ xs, In64 x) → (∀ y ∈ ys, In64 y) → (∀ x ∈ us, In64 x) ∧ ∀ y ∈ vs, In64 y
  | [], r, xs, ys, us, vs, h, hx, hy => by
    simp only [goS] at h
    injection h with h
    injection h with h1 h2
    subst h1 h2
    exact ⟨hx, hy⟩
  | w :: W, r, xs, ys, us, vs, h, hx, hy => by
    simp only [goS] at h
    split at h
    · exact goS_in hq h hx hy
    · rcases parseS_cases (l := w) hq with ⟨h1, h2, _⟩ | ⟨h1, _⟩
      · rw [if_pos h1] at h
        have hm : ∀ (l : List Int), (∀ x ∈ l, In64 x) → ∀ x ∈ l ++ [(parseS w q).1], In64 x := fun l hl x hx => by
          rcases List.mem_append.1 hx with hx | hx
          · exact hl x hx
          · rw [List.mem_singleton] at hx
            rw [hx]
            exact h2
        split at h
        · exact goS_in hq h hx (hm _ hy)
        · exact goS_in hq h (hm _ hx) hy
      · rw [h1] at h
        simp at h

theorem text_no_arrow (x : Int) (q : Nat) : decText x q ≠ [62] := fun h => by
  have := numC_62 (decText_chars x q 62 (by rw [h]; simp))
  exact this rfl

theorem goS_left {q : Nat} (hq : q ≤ 62) (R : List (List UInt8)) : ∀ (us xs ys : List Int), (∀ x ∈ us, In64 x) → goS q (txtL us q ++ R) false xs ys = goS q R false (xs ++ us) ys
  | [], xs, ys, _ => by simp [txtL]
  | u :: us, xs, ys, h => by
    have hp := parseS_yes (l := decText u q) hq (h u (by simp)) rfl
    have ih := goS_left hq R us (xs ++ [u]) ys fun x hx => h x (by simp [hx])
    unfold txtL at ih ⊢
    simp only [List.map_cons, List.cons_append, goS]
    rw [if_neg (fun h => text_no_arrow u q h.1), hp]
    simp only [if_true, Bool.false_eq_true, if_false]
    rw [ih, List.append_assoc]
    rfl

theorem goS_right {q : Nat} (hq : q ≤ 62) : ∀ (vs xs ys : List Int), (∀ x ∈ vs, In64 x) → goS q (txtL vs q) true xs ys = some (xs, ys ++ vs)
  | [], xs, ys, _ => by simp [txtL, goS]
  | v :: vs, xs, ys, h => by
    have hp := parseS_yes (l := decText v q) hq (h v (by simp)) rfl
    have ih := goS_right hq vs xs (ys ++ [v]) fun x hx => h x (by simp [hx])
    unfold txtL at ih ⊢
    simp only [List.map_cons, goS]
    rw [if_neg (fun h => text_no_arrow v q h.1), hp]
    simp only [if_true]
    rw [ih, List.append_assoc]
    rfl

theorem goS_run {q : Nat} (hq : q ≤ 62) {us vs : List Int} (h : exOk us vs) : goS q (cutAt 32 (exText us vs q)) false [] [] = some (us, vs) := by
  rw [cutAt_ex q h.1 h.2.1, goS_left hq _ us [] [] h.2.2.1]
  simp only [List.nil_append, goS]
  rw [if_pos ⟨trivial, trivial⟩, goS_right hq vs us [] h.2.2.2]
  rfl

def exNone : (List Int × List Int) × Bool := (([], []), false)

theorem ex_none {s : List UInt8} {q : Int} (h : goS q (cutAt 32 s) false [] [] = none) : exS s q = exNone := by
  by_cases hq : 0 ≤ q ∧ q ≤ 62
  · obtain ⟨n, rfl⟩ := Int.eq_ofNat_of_zero_le hq.1
    refine exS_no fun us vs hok e => ?_
    have := goS_run (q := n) (by omega) hok
    rw [← e, h] at this
    cases this
  · exact exS_out hq

theorem ex_some {s : List UInt8} {n : Nat} {xs ys : List Int} (hn : n ≤ 62) (h : goS n (cutAt 32 s) false [] [] = some (xs, ys)) :
    ((∀ x ∈ xs, In64 x) ∧ ∀ y ∈ ys, In64 y) ∧ (¬ (0 < xs.length ∧ 0 < ys.length) → exS s n = exNone) ∧ (0 < xs.length ∧ 0 < ys.length → (exText xs ys n = s → exS s n = ((xs, ys), true)) ∧ (exText xs ys n ≠ s → exS s n = exNone)) := by
  have hin := goS_in hn h (by simp) (by simp)
  have hno : ∀ us vs, exOk us vs → s = exText us vs n → us = xs ∧ vs = ys := fun us vs hok e => by
    have := goS_run hn hok
    rw [← e, h] at this
    injection this with this
    injection this with h1 h2
    exact ⟨h1.symm, h2.symm⟩
  refine ⟨hin, fun hz => exS_no fun us vs hok e => ?_, fun hz => ⟨fun e => exS_yes hn ⟨fun h0 => ?_, fun h0 => ?_, hin.1, hin.2⟩ e.symm, fun hne => exS_no fun us vs hok e => ?_⟩⟩
  · obtain ⟨rfl, rfl⟩ := hno us vs hok e
    exact hz ⟨List.length_pos_iff.2 hok.1, List.length_pos_iff.2 hok.2.1⟩
  · rw [h0] at hz; exact absurd hz.1 (by simp)
  · rw [h0] at hz; exact absurd hz.2 (by simp)
  · obtain ⟨rfl, rfl⟩ := hno us vs hok e
    exact hne e.symm

theorem parse_arrow (q : Int) : (parseS [62] q).2 = false := by
  by_cases hq : 0 ≤ q ∧ q ≤ 62
  · obtain ⟨n, rfl⟩ := Int.eq_ofNat_of_zero_le hq.1
    rw [parseS_no fun x _ e => text_no_arrow x n e.symm]
  · rw [parseS_out hq]

theorem cutAt_len (c : UInt8) : ∀ s : List UInt8, (cutAt c s).length ≤ s.length + 1
  | [] => by simp [cutAt]
  | b :: l => by
    have ih := cutAt_len c l
    simp only [cutAt]
    split
    · simp; omega
    · split
      · simp
      · rename_i h; rw [h] at ih; simp at ih ⊢; omega

/- Worlds. -/
theorem only_refl (w : World) (row : Option Nat) : w.grownBy w row := ⟨rfl, rfl, rfl, Nat.le_refl _, fun _ _ _ => rfl⟩
theorem only_below {a w w' : World} {row : Option Nat} (h : a.grownBy w row) (hb : Below w.heap.size w w') : a.grownBy w' row :=
  ⟨hb.os.trans h.os, hb.tape.trans h.tape, hb.output.trans h.output, Nat.le_trans h.size hb.size, fun i hi hne => (hb.block i (Nat.lt_of_lt_of_le hi h.size)).trans (h.block i hi hne)⟩
theorem only_own {a w w' : World} {row : Option Nat} {base e size n : Nat} {v : Value} {xs : List Value} (h : a.grownBy w row) (hown : w.ownsRow base e size v n xs) (hB : a.heap.size ≤ base) (hg : w.grownBy w' v.ownBlock) : a.grownBy w' row :=
  ⟨hg.os.trans h.os, hg.tape.trans h.tape, hg.output.trans h.output, Nat.le_trans h.size hg.size, fun i hi hne => (hg.block i (Nat.lt_of_lt_of_le hi h.size) (fun e => by have := (hown.lt i e.symm).1; omega)).trans (h.block i hi hne)⟩
theorem grown_set (w : World) (p : Addr) (u : Value) : w.grownBy (w.setCell p u) (some p.block) :=
  ⟨rfl, rfl, rfl, by simp [World.setCell], fun i _ hne => Below.heap_setCell w p u i (fun e => hne (by rw [e]))⟩
theorem own_far {w : World} {base e size n : Nat} {v : Value} {xs : List Value} (h : w.ownsRow base e size v n xs) {p : Addr} (hp : p.block < base) (u : Value) : (w.setCell p u).ownsRow base e size v n xs := by
  refine h.kept (grown_set w p u) ?_
  cases hv : v.ownBlock with
  | none => exact .inl rfl
  | some k => exact .inr fun e => by injection e with e; have := (h.lt k hv).1; omega
theorem below_only {w0 a w : World} {B g : Nat} (hb : Below B w0 a) (hB : B ≤ w0.heap.size) (hg : a.grownBy w (some g)) (h : B ≤ g) : Below B w0 w :=
  hb.grown hg (Nat.le_trans hB hb.size) fun k hk => by injection hk with hk; omega
/-- A row of the call's own, read while another block turns. -/
theorem rd_only {a w : World} {base e n cap g : Nat} {A : Option Addr} {xs : List Value} (h : a.ownsRow base e 1 (.slice A n cap) n xs) (hg : a.grownBy w (some g)) (hlt : g < base) : Rd w a.heap.size A xs := fun h0 => by
  obtain ⟨b, off, e1, hb, hc⟩ := rd_of_own h h0
  refine ⟨b, off, e1, hb, fun j x hx => hg.cell (hc j x hx) fun e2 => ?_⟩
  injection e2 with e2
  subst e1
  have := (h.lt b rfl).1
  dsimp only at e2
  omega

/-- The two rows of the example that is being read: the second one lies behind the first one. -/
def RowsAt (base : Nat) (w : World) (b : Bool) (v1 v2 : Value) (xs ys : List Int) (t : TypeId) : Prop :=
  w.ownsRow base t 1 v1 xs.length (xs.map (Value.int .i64)) ∧ ((b = false ∧ v2 = .slice none 0 0 ∧ ys = []) ∨ (b = true ∧ ∃ b2, b2 ≤ w.heap.size ∧ base ≤ b2 ∧ (∀ k, v1.ownBlock = some k → k < b2) ∧ w.ownsRow b2 t 1 v2 ys.length (ys.map (Value.int .i64))))

theorem RowsAt.below {base : Nat} {w w' : World} {b : Bool} {v1 v2 : Value} {xs ys : List Int} {t : TypeId} (h : RowsAt base w b v1 v2 xs ys t) (hb : Below w.heap.size w w') : RowsAt base w' b v1 v2 xs ys t := by
  refine ⟨own_below h.1 hb, ?_⟩
  rcases h.2 with h2 | ⟨hb1, b2, h3, h4, h5, h6⟩
  · exact .inl h2
  · exact .inr ⟨hb1, b2, Nat.le_trans h3 hb.size, h4, h5, own_below h6 hb⟩

theorem RowsAt.far {base : Nat} {w : World} {b : Bool} {v1 v2 : Value} {xs ys : List Int} {t : TypeId} (h : RowsAt base w b v1 v2 xs ys t) {p : Addr} (hp : p.block < base) (u : Value) : RowsAt base (w.setCell p u) b v1 v2 xs ys t := by
  refine ⟨own_far h.1 hp u, ?_⟩
  rcases h.2 with h2 | ⟨hb1, b2, h3, h4, h5, h6⟩
  · exact .inl h2
  · exact .inr ⟨hb1, b2, by simpa [World.setCell] using h3, h4, h5, own_far h6 (by omega) u⟩

theorem RowsAt.both {base : Nat} {w : World} {b : Bool} {v1 v2 : Value} {xs ys : List Int} {t : TypeId} (h : RowsAt base w b v1 v2 xs ys t) : ∃ b2, base ≤ b2 ∧ w.ownsRow b2 t 1 v2 ys.length (ys.map (Value.int .i64)) := by
  rcases h.2 with ⟨_, rfl, rfl⟩ | ⟨_, b2, _, h4, _, h6⟩
  · exact ⟨base, Nat.le_refl _, ⟨by simp, .inl ⟨rfl, rfl⟩⟩⟩
  · exact ⟨b2, h4, h6⟩

end Go.Proofs.YtajilipbnfpemaaDoor
