/- Plain Lean: marks as pairs of whole numbers. Conditions: none. -/
import Derived.Test.YtoafihjgpbcgbaaGreatFloat
import Derived.Laws.BitsAllLaws
import Derived.Laws.BitsLemmas
namespace Go.Proofs.YtoafihjgpbcgbaaGreat

/-- The low 16 bits of a number, with their sign. -/
def low (x : Int) : Int := if 32767 < x % 65536 then x % 65536 - 65536 else x % 65536
theorem low_bd (x : Int) : -32768 ≤ low x ∧ low x ≤ 32767 := by unfold low; split <;> omega

/-- A quarter turn, n times. -/
def tRe (n x y : Int) : Int := if n % 4 = 0 then x else if n % 4 = 1 then -y else if n % 4 = 2 then -x else y
def tIm (n x y : Int) : Int := if n % 4 = 0 then y else if n % 4 = 1 then x else if n % 4 = 2 then -y else -x

theorem turn_bd {n x y m : Int} (h1 : -m ≤ x ∧ x ≤ m) (h2 : -m ≤ y ∧ y ≤ m) : (-m ≤ tRe n x y ∧ tRe n x y ≤ m) ∧ (-m ≤ tIm n x y ∧ tIm n x y ≤ m) := by
  unfold tRe tIm
  split
  · omega
  split
  · omega
  split <;> omega

theorem turn_mul (n x y : Int) : x * tRe n 1 0 - y * tIm n 1 0 = tRe n x y ∧ x * tIm n 1 0 + y * tRe n 1 0 = tIm n x y := by
  unfold tRe tIm
  split
  · omega
  split
  · omega
  split <;> omega

/-- The mark of a vector, added up from the front: element j is turned j + off times. -/
def ofRe (off : Nat) : List Int → Int
  | [] => 0
  | x :: l => tRe off (low x) 0 + ofRe (off + 1) l
def ofIm (off : Nat) : List Int → Int
  | [] => 0
  | x :: l => tIm off (low x) 0 + ofIm (off + 1) l

theorem of_snoc : ∀ (l : List Int) (off k : Nat) (x : Int), l[k]? = some x → ofRe off (l.take (k + 1)) = ofRe off (l.take k) + tRe ((off + k : Nat) : Int) (low x) 0 ∧ ofIm off (l.take (k + 1)) = ofIm off (l.take k) + tIm ((off + k : Nat) : Int) (low x) 0
  | [], _, _, _, h => by simp at h
  | y :: l, off, 0, x, h => by
    simp at h; subst h
    simp [ofRe, ofIm]
  | y :: l, off, k + 1, x, h => by
    have ih := of_snoc l (off + 1) k x (by simpa using h)
    simp only [List.take_succ_cons, ofRe, ofIm]
    rw [ih.1, ih.2, show off + 1 + k = off + (k + 1) by omega]
    omega
theorem of_bd : ∀ (l : List Int) (off : Nat), (-(32768 * l.length : Int) ≤ ofRe off l ∧ ofRe off l ≤ 32768 * l.length) ∧ (-(32768 * l.length : Int) ≤ ofIm off l ∧ ofIm off l ≤ 32768 * l.length)
  | [], _ => by simp [ofRe, ofIm]
  | x :: l, off => by
    have ih := of_bd l (off + 1)
    have hl := low_bd x
    have ht := turn_bd (n := off) (x := low x) (y := 0) (m := 32768) (by omega) (by omega)
    simp only [ofRe, ofIm, List.length_cons]
    omega

theorem cmul_int {a b c d : Nat} {x y u v : Int} (ha : IsF a x) (hb : IsF b y) (hc : IsF c u) (hd : IsF d v) (hx : x.natAbs < 2 ^ 52) (hy : y.natAbs < 2 ^ 52) (hu : u.natAbs ≤ 1) (hv : v.natAbs ≤ 1) :
    ∃ re im, cMulBits a b c d = some (re, im) ∧ IsF re (x * u - y * v) ∧ IsF im (x * v + y * u) := by
  have bd : ∀ p q : Int, p.natAbs < 2 ^ 52 → q.natAbs ≤ 1 → (p * q).natAbs < 2 ^ 52 := fun p q hp hq => by
    rw [Int.natAbs_mul]
    have := Nat.mul_le_mul_left p.natAbs hq
    omega
  have b1 := bd x u hx hu
  have b2 := bd y v hy hv
  have b3 := bd x v hx hv
  have b4 := bd y u hy hu
  obtain ⟨r1, e1, f1⟩ := ha.mul hc (by omega)
  obtain ⟨r2, e2, f2⟩ := hb.mul hd (by omega)
  obtain ⟨r3, e3, f3⟩ := f1.sub f2 (by omega)
  obtain ⟨r4, e4, f4⟩ := ha.mul hd (by omega)
  obtain ⟨r5, e5, f5⟩ := hb.mul hc (by omega)
  obtain ⟨r6, e6, f6⟩ := f4.add f5 (by omega)
  refine ⟨r3, r6, ?_, f3, f6⟩
  have g1 : floatBits .mul .f64 a c = some r1 := e1
  have g2 : floatBits .mul .f64 b d = some r2 := e2
  have g3 : floatBits .sub .f64 r1 r2 = some r3 := e3
  have g4 : floatBits .mul .f64 a d = some r4 := e4
  have g5 : floatBits .mul .f64 b c = some r5 := e5
  have g6 : floatBits .add .f64 r4 r5 = some r6 := e6
  simp [cMulBits, g1, g2, g3, g4, g5, g6]

theorem cadd_int {a b c d : Nat} {x y u v : Int} (ha : IsF a x) (hb : IsF b y) (hc : IsF c u) (hd : IsF d v) (h1 : (x + u).natAbs < 2 ^ 53) (h2 : (y + v).natAbs < 2 ^ 53) :
    ∃ re im, cSumBits .add .f64 a b c d = some (re, im) ∧ IsF re (x + u) ∧ IsF im (y + v) := by
  obtain ⟨r1, e1, f1⟩ := ha.add hc h1
  obtain ⟨r2, e2, f2⟩ := hb.add hd h2
  refine ⟨r1, r2, ?_, f1, f2⟩
  have g1 : floatBits .add .f64 a c = some r1 := e1
  have g2 : floatBits .add .f64 b d = some r2 := e2
  simp [cSumBits, g1, g2]

/-- '==' of two floats that are whole numbers. -/
theorem feq_int {a b : Nat} {x y : Int} (ha : IsF a x) (hb : IsF b y) : (FloatKind.f64.format.order a b == some .eq) = decide (x = y) := by
  have h : FloatKind.f64.format.order a b = some (compare x y) := ha.rep.order hb.rep
  rw [h]
  by_cases e : x = y
  · subst e; simp
  · have : compare x y ≠ .eq := fun h => e (Int.compare_eq_eq.1 h)
    simp [e, this]

theorem IsF.one : IsF 4607182418800017408 1 := ⟨by decide, .inl ⟨by decide, by decide⟩⟩
theorem IsF.minus : IsF 13830554455654793216 (-1) := ⟨by decide, .inl ⟨by decide, by decide⟩⟩
theorem IsF.nought : IsF 0 0 := ⟨by decide, .inr ⟨rfl, false, rfl⟩⟩

theorem and_three (n : Int) : bits .and .i64 n 3 = n % 4 := by
  show IntKind.i64.wrap ((BitVec.ofInt 64 n &&& BitVec.ofInt 64 3).toNat : Int) = _
  have h3 : (BitVec.ofInt 64 3).toNat = 3 := by decide
  rw [BitVec.toNat_and, h3]
  have h4 : (BitVec.ofInt 64 n).toNat &&& 3 = (BitVec.ofInt 64 n).toNat % 4 := Nat.and_two_pow_sub_one_eq_mod _ 2
  have h5 : ((BitVec.ofInt 64 n).toNat : Int) = n % 18446744073709551616 := by
    rw [BitVec.toNat_ofInt]
    omega
  rw [h4, IntKind.wrap_i64]
  omega

end Go.Proofs.YtoafihjgpbcgbaaGreat
