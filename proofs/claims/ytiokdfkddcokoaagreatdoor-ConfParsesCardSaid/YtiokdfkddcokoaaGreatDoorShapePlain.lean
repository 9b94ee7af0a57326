/- Plain Lean: the number of parameters of a network and the code of its sizes. Conditions: none. -/
import Derived.KernelRfl
import GoSem.Core.Value
namespace Go.Proofs.YtiokdfkddcokoaaGreatDoor

/-- Parameters of a network with some layers: weights and biases between neighbours. -/
def cnt : List Int → Int
  | a :: b :: r => (a + 1) * b + cnt (b :: r)
  | _ => 0

theorem cnt_snoc : ∀ (zs : List Int) (k : Nat) (a b : Int), zs[k]? = some a → zs[k + 1]? = some b → cnt (zs.take (k + 2)) = cnt (zs.take (k + 1)) + (a + 1) * b
  | [], _, _, _, h, _ => by simp at h
  | [x], k, _, _, _, h => by simp at h
  | x :: y :: r, 0, a, b, h, h' => by
    simp at h h'
    subst h; subst h'
    simp [cnt]
  | x :: y :: r, k + 1, a, b, h, h' => by
    have ih := cnt_snoc (y :: r) k a b (by simpa using h) (by simpa using h')
    simp only [List.take_succ_cons, cnt] at ih ⊢
    rw [ih]
    omega

/-- A size that may be. -/
def okSz (x : Int) : Bool := decide (1 ≤ x ∧ x ≤ 1048576)
theorem okSz_iff {x : Int} : okSz x = true ↔ 1 ≤ x ∧ x ≤ 1048576 := by simp [okSz]
theorem okSz_no {x : Int} : okSz x = false ↔ x < 1 ∨ 1048576 < x := by
  unfold okSz; rw [decide_eq_false_iff_not]; omega

theorem mul_bd (a b : Int) (ha : 1 ≤ a ∧ a ≤ 1048576) (hb : 1 ≤ b ∧ b ≤ 1048576) : 0 ≤ (a + 1) * b ∧ (a + 1) * b ≤ 1099512676352 := by
  constructor
  · exact Int.mul_nonneg (by omega) (by omega)
  · have h : (a + 1) * b ≤ 1048577 * 1048576 := Int.mul_le_mul (by omega) hb.2 (by omega) (by omega)
    omega

theorem cnt_bd : ∀ (zs : List Int), (∀ z ∈ zs, okSz z = true) → 0 ≤ cnt zs ∧ cnt zs ≤ zs.length * 1099512676352
  | [], _ => by simp [cnt]
  | [x], _ => by simp [cnt]
  | x :: y :: r, h => by
    have ih := cnt_bd (y :: r) (fun z hz => h z (List.mem_cons_of_mem _ hz))
    have hm := mul_bd x y (okSz_iff.1 (h x (by simp))) (okSz_iff.1 (h y (by simp)))
    simp only [cnt, List.length_cons] at ih ⊢
    omega

/-- The code of some sizes. -/
def shCode (zs : List Int) : Int :=
  if zs.length < 2 ∨ 16 < zs.length then 5
  else if zs.all okSz = false then 5
  else if 1048576 < cnt zs then 4 else 0


/-- Where the weights behind layer k begin, how many they are, how many biases. -/
def lo (zs : List Int) (k : Nat) : Int := cnt (zs.take (k + 1))
def zAt (zs : List Int) (k : Nat) : Int := zs.getD k 0
def mid (zs : List Int) (k : Nat) : Int := lo zs k + zAt zs (k + 1) * zAt zs k

/-- The cells of the weights' ranges, and of the biases', of the first k links. -/
def wcells (zs : List Int) : Nat → List Value
  | 0 => []
  | k + 1 => wcells zs k ++ [.int .i64 (lo zs k), .int .i64 (mid zs k)]
def bcells (zs : List Int) : Nat → List Value
  | 0 => []
  | k + 1 => bcells zs k ++ [.int .i64 (mid zs k), .int .i64 (lo zs (k + 1))]

theorem lo_succ (zs : List Int) (k : Nat) (a b : Int) (ha : zs[k]? = some a) (hb : zs[k + 1]? = some b) : lo zs (k + 1) = lo zs k + b * a + b := by
  unfold lo
  rw [cnt_snoc zs k a b ha hb, Int.add_mul, Int.one_mul, Int.mul_comm a b]
  omega
theorem mid_eq (zs : List Int) (k : Nat) (a b : Int) (ha : zs[k]? = some a) (hb : zs[k + 1]? = some b) : mid zs k = lo zs k + b * a := by
  simp [mid, zAt, List.getD, ha, hb]

end Go.Proofs.YtiokdfkddcokoaaGreatDoor
