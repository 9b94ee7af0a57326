/- Plain Lean: the code of a configuration. Conditions: none. -/
import Derived.Test.YtiokdfkddcokoaaGreatDoorShapePlain
namespace Go.Proofs.YtiokdfkddcokoaaGreatDoor

/-- The numbers of a configuration, without its sizes. -/
structure Cf where
  sh : Int
  ra : Int
  mo : Int
  wo : Int
  ba : Int
  mi : Int
  st : Int
  bu : Int
  ch : Int
  wi : Int
  ca : Int

/-- A configuration as a value. -/
def cfVal (A : Option Addr) (n cap : Nat) (c : Cf) : Value :=
  .agg #[.slice A n cap, .int .i64 c.sh, .int .i64 c.ra, .int .i64 c.mo, .int .i64 c.wo, .int .i64 c.ba, .int .i64 c.mi, .int .i64 c.st, .int .i64 c.bu, .int .i64 c.ch, .int .i64 c.wi, .int .i64 c.ca]

def numsOk (c : Cf) : Bool := okSz c.mi && okSz c.bu && okSz c.ch && okSz c.wi && okSz c.ca && (decide (c.st = 0) || okSz c.st)

def confCode (zs : List Int) (c : Cf) : Int :=
  if c.wo < 1 ∨ 64 < c.wo then 6
  else if c.sh < 1 ∨ 62 < c.sh then 9
  else if shCode zs ≠ 0 then shCode zs
  else if numsOk c = false then 2
  else if c.ba < c.wo ∨ 1048576 < c.ba then 7 else 0

section
variable {zs : List Int} {c : Cf}
theorem code6 (h : c.wo < 1 ∨ 64 < c.wo) : confCode zs c = 6 := if_pos h
theorem code9 (h : ¬ c.wo < 1) (h' : ¬ 64 < c.wo) (h1 : c.sh < 1 ∨ 62 < c.sh) : confCode zs c = 9 := by
  unfold confCode; rw [if_neg (by omega), if_pos h1]
theorem codeS (h : ¬ c.wo < 1) (h' : ¬ 64 < c.wo) (h1 : ¬ c.sh < 1) (h1' : ¬ 62 < c.sh) (h2 : shCode zs ≠ 0) : confCode zs c = shCode zs := by
  unfold confCode; rw [if_neg (by omega), if_neg (by omega), if_pos h2]
theorem code2 (h : ¬ c.wo < 1) (h' : ¬ 64 < c.wo) (h1 : ¬ c.sh < 1) (h1' : ¬ 62 < c.sh) (h2 : shCode zs = 0) (h3 : numsOk c = false) : confCode zs c = 2 := by
  unfold confCode; rw [if_neg (by omega), if_neg (by omega), if_neg (by simp [h2]), if_pos h3]
theorem code7 (h : ¬ c.wo < 1) (h' : ¬ 64 < c.wo) (h1 : ¬ c.sh < 1) (h1' : ¬ 62 < c.sh) (h2 : shCode zs = 0) (h3 : numsOk c = true) (h4 : c.ba < c.wo ∨ 1048576 < c.ba) : confCode zs c = 7 := by
  unfold confCode; rw [if_neg (by omega), if_neg (by omega), if_neg (by simp [h2]), if_neg (by simp [h3]), if_pos h4]
theorem code0 (h : ¬ c.wo < 1) (h' : ¬ 64 < c.wo) (h1 : ¬ c.sh < 1) (h1' : ¬ 62 < c.sh) (h2 : shCode zs = 0) (h3 : numsOk c = true) (h4 : ¬ c.ba < c.wo) (h4' : ¬ 1048576 < c.ba) : confCode zs c = 0 := by
  unfold confCode; rw [if_neg (by omega), if_neg (by omega), if_neg (by simp [h2]), if_neg (by simp [h3]), if_neg (by omega)]
end

end Go.Proofs.YtiokdfkddcokoaaGreatDoor
