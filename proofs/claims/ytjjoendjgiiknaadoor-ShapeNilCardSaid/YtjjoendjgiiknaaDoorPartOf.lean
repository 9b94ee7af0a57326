/- Walks: part.Of. Conditions: none. -/
import Derived.Test.YtjjoendjgiiknaaDoorShapeMake
import Derived.Test.YtjjoendjgiiknaaDoorPlacePlain
namespace Go.Proofs.YtjjoendjgiiknaaDoor
open Go.RowKit

def flatR (rs : List (Int × Int)) : List Value := rs.flatMap fun r => [.int .i64 r.1, .int .i64 r.2]
theorem flatR_at : ∀ (rs : List (Int × Int)) (k : Nat) (r : Int × Int), rs[k]? = some r → (flatR rs)[k * 2]? = some (.int .i64 r.1) ∧ (flatR rs)[k * 2 + 1]? = some (.int .i64 r.2)
  | [], _, _, h => by simp at h
  | x :: rs, 0, r, h => by
    simp at h; subst h
    exact ⟨rfl, rfl⟩
  | x :: rs, k + 1, r, h => by
    have ih := flatR_at rs k r (by simpa using h)
    have e : flatR (x :: rs) = [.int .i64 x.1, .int .i64 x.2] ++ flatR rs := rfl
    rw [e, List.getElem?_append_right (by simp; omega), List.getElem?_append_right (by simp; omega)]
    rw [show (k + 1) * 2 - ([Value.int .i64 x.1, .int .i64 x.2] : List Value).length = k * 2 by simp; omega, show (k + 1) * 2 + 1 - ([Value.int .i64 x.1, .int .i64 x.2] : List Value).length = k * 2 + 1 by simp; omega]
    exact ih
theorem flatR_len (rs : List (Int × Int)) : (flatR rs).length = rs.length * 2 := by
  induction rs with
  | nil => rfl
  | cons x rs ih =>
    have e : flatR (x :: rs) = [.int .i64 x.1, .int .i64 x.2] ++ flatR rs := rfl
    rw [e, List.length_append, ih, List.length_cons]
    simp; omega
theorem flatR_snoc (rs : List (Int × Int)) (r : Int × Int) : flatR (rs ++ [r]) = flatR rs ++ [.int .i64 r.1, .int .i64 r.2] := by simp [flatR]

def wr (zs : List Int) (n : Nat) : List (Int × Int) := (List.range n).map fun k => (lo zs k, mid zs k)
def br (zs : List Int) (n : Nat) : List (Int × Int) := (List.range n).map fun k => (mid zs k, lo zs (k + 1))
theorem wcells_eq (zs : List Int) : ∀ n, wcells zs n = flatR (wr zs n)
  | 0 => rfl
  | n + 1 => by
    have : wr zs (n + 1) = wr zs n ++ [(lo zs n, mid zs n)] := by simp [wr, List.range_succ]
    rw [this, flatR_snoc, ← wcells_eq zs n]
    rfl
theorem bcells_eq (zs : List Int) : ∀ n, bcells zs n = flatR (br zs n)
  | 0 => rfl
  | n + 1 => by
    have : br zs (n + 1) = br zs n ++ [(mid zs n, lo zs (n + 1))] := by simp [br, List.range_succ]
    rw [this, flatR_snoc, ← bcells_eq zs n]
    rfl
theorem wr_len (zs : List Int) (n : Nat) : (wr zs n).length = n := by simp [wr]
theorem br_len (zs : List Int) (n : Nat) : (br zs n).length = n := by simp [br]
theorem wr_at (zs : List Int) {n k : Nat} (h : k < n) : (wr zs n)[k]? = some (lo zs k, mid zs k) := by simp [wr, h]
theorem br_at (zs : List Int) {n k : Nat} (h : k < n) : (br zs n)[k]? = some (mid zs k, lo zs (k + 1)) := by simp [br, h]

/-- What Of returns: the first range that has the index, or -1. -/
def OfIs (i : Int) (rs : List (Int × Int)) (v : Int) : Prop :=
  (∃ k : Nat, v = k ∧ (∃ r, rs[k]? = some r ∧ r.1 ≤ i ∧ i < r.2)) ∨ (v = -1 ∧ ∀ (k : Nat) (r : Int × Int), rs[k]? = some r → ¬ (r.1 ≤ i ∧ i < r.2))

def OfPost (i : Int) (rs : List (Int × Int)) (w : World) (e : Ending) (w' : World) : Prop := (∃ v, e = .returned (.int .i64 v) ∧ OfIs i rs v) ∧ Below w.heap.size w w'

set_option maxHeartbeats 1000000 in
theorem of_any (i : Int) (A : Option Addr) (cap : Nat) (rs : List (Int × Int)) (w : World) (hr : Rd w w.heap.size A (flatR rs)) (hl : rs.length ≤ 100) :
    Calls Tryd.prog 32 #[.int .i64 i, .slice A rs.length cap] w (OfPost i rs w) := by
  have HR := Lib.hid hr
  have hzl : (rs.length : Int) ≤ 100 := by omega
  clear hr hl
  go_enter Tryd.func32, Tryd.ntmps32
  go_wp2_with fail
  go_loopw [9] (fun x wr' => ∃ k : Nat, k ≤ rs.length ∧ x = .int .i64 k ∧ Hid (∀ (j : Nat) (r : Int × Int), j < k → rs[j]? = some r → ¬ (r.1 ≤ i ∧ i < r.2)) ∧ Hid (Below w.heap.size w wr')) (fun x _ => rs.length - (intOf x).toNat)
  case atStart => exact ⟨0, Nat.zero_le _, rfl, Lib.hid fun j r h => absurd h (Nat.not_lt_zero _), Lib.hid (Below.refl _ _)⟩
  case round =>
    obtain ⟨k, hk, rfl, HN, HBk⟩ := hrel
    by_cases hlt : k < rs.length
    · obtain ⟨r, hrk⟩ := get_some rs k hlt
      obtain ⟨b, off, rfl, hb, hc⟩ := HR.out (by rw [flatR_len]; omega)
      have hf := flatR_at rs k r hrk
      have c1 := (HBk.out.cell (p := ⟨b, off + k * 2, none⟩) hb).trans (hc _ _ hf.1)
      have c2 := (HBk.out.cell (p := ⟨b, off + (k * 2 + 1), none⟩) hb).trans (hc _ _ hf.2)
      rw [← Nat.add_assoc] at c2
      have HRK := Lib.hid hrk
      have HB1 := Lib.hid (HBk.out.alloc HBk.out.size (.cells #[.int .i64 r.1, .int .i64 r.2] 35))
      obtain ⟨x, y⟩ := r
      dsimp only at c1 c2 HB1
      clear hc hf hrk
      by_cases h1 : x ≤ i
      · by_cases h2 : i < y
        · go_wp2_with fail
          go_ret
          exact ⟨⟨k, rfl, .inl ⟨k, rfl, (x, y), HRK.out, h1, h2⟩⟩, HB1.out⟩
        · have HNX := Lib.hid (show ∀ (j : Nat) (r : Int × Int), j < k + 1 → rs[j]? = some r → ¬ (r.1 ≤ i ∧ i < r.2) from fun j r hj hr => by
            rcases Nat.lt_or_ge j k with hlt' | hge
            · exact HN.out j r hlt' hr
            · obtain rfl : j = k := by omega
              rw [HRK.out] at hr
              injection hr with hr
              subst hr
              exact fun h => h2 h.2)
          go_wp2_with fail
          go_roundw
          case rel => exact ⟨k + 1, by omega, by go_num, HNX, HB1⟩
          case measure => simp [intOf]; omega
      · have HNX := Lib.hid (show ∀ (j : Nat) (r : Int × Int), j < k + 1 → rs[j]? = some r → ¬ (r.1 ≤ i ∧ i < r.2) from fun j r hj hr => by
          rcases Nat.lt_or_ge j k with hlt' | hge
          · exact HN.out j r hlt' hr
          · obtain rfl : j = k := by omega
            rw [HRK.out] at hr
            injection hr with hr
            subst hr
            exact fun h => h1 h.1)
        go_wp2_with fail
        go_roundw
        case rel => exact ⟨k + 1, by omega, by go_num, HNX, HB1⟩
        case measure => simp [intOf]; omega
    · have hge : rs.length ≤ k := by omega
      have HNX := Lib.hid (show OfIs i rs (-1) from .inr ⟨rfl, fun j r hr => HN.out j r (by have := (List.getElem?_eq_some_iff.1 hr).1; omega) hr⟩)
      go_wp2_with fail
      go_ret
      exact ⟨⟨-1, rfl, HNX.out⟩, HBk.out⟩

/-- The weights' range, and the biases', of the link of an index. -/
theorem ofW {zs : List Int} (h : ShOk zs) {i : Int} {v : Int} (hv : OfIs i (wr zs (zs.length - 1)) v) : (∃ k : Nat, v = k ∧ AtL zs i k ∧ i < mid zs k) ∨ (v = -1 ∧ ∀ k, AtL zs i k → ¬ i < mid zs k) := by
  rcases hv with ⟨k, rfl, r, hr, h1, h2⟩ | ⟨rfl, hn⟩
  · have hk : k < zs.length - 1 := by
      have := (List.getElem?_eq_some_iff.1 hr).1
      rwa [wr_len] at this
    rw [wr_at zs hk] at hr
    injection hr with hr
    subst hr
    dsimp only at h1 h2
    have := (mid_ge h (k := k) (by omega)).2
    exact .inl ⟨k, rfl, ⟨by omega, h1, by omega⟩, h2⟩
  · exact .inr ⟨rfl, fun k hk hm => hn k _ (wr_at zs (by have := hk.1; omega)) ⟨hk.2.1, hm⟩⟩
theorem ofB {zs : List Int} (h : ShOk zs) {i : Int} {v : Int} (hv : OfIs i (br zs (zs.length - 1)) v) : (∃ k : Nat, v = k ∧ AtL zs i k ∧ ¬ i < mid zs k) ∨ (v = -1 ∧ ∀ k, AtL zs i k → i < mid zs k) := by
  rcases hv with ⟨k, rfl, r, hr, h1, h2⟩ | ⟨rfl, hn⟩
  · have hk : k < zs.length - 1 := by
      have := (List.getElem?_eq_some_iff.1 hr).1
      rwa [br_len] at this
    rw [br_at zs hk] at hr
    injection hr with hr
    subst hr
    dsimp only at h1 h2
    have := (mid_ge h (k := k) (by omega)).1
    exact .inl ⟨k, rfl, ⟨by omega, by omega, h2⟩, by omega⟩
  · refine .inr ⟨rfl, fun k hk => ?_⟩
    have := hn k _ (br_at zs (by have := hk.1; omega))
    have h2 := hk.2.2
    dsimp only at this
    omega

end Go.Proofs.YtjjoendjgiiknaaDoor
