/- strconv.ParseInt and ParseUint at base 10, 64 bits: a value or an error. Conditions: the two sentinels hold interface values. -/
import Derived.Test.YtiokdfkddcokoaaGreatDoorShelfB
import Derived.Test.YtiokdfkddcokoaaGreatDoorPow
import Derived.Test.YtiokdfkddcokoaaGreatDoorNumPlain
import Derived.Lib.ParseIntBTie
import Derived.Lib.ParseIntBCases
namespace Go.Proofs.YtiokdfkddcokoaaGreatDoor
open Go.RowKit

/-- '!=' of a string that was made and one that came in, as the walk spells it. -/
theorem str_same {s : ByteArray} {l : List UInt8} (h : s.data.toList = l) : (!l == s.toList) = false := by
  rw [Go.ByteArray.toList_eq, h]; simp
theorem str_other {s : ByteArray} {l : List UInt8} (h : s.data.toList ≠ l) : (!l == s.toList) = true := by
  rw [Go.ByteArray.toList_eq]; simp [Ne.symm h]

/-- A variable below B holds an interface value that is not nil. -/
def ErrAt (B : Nat) (w : World) (n : String) : Prop := ∃ g tp p, Tryz.prog.globalNamed n = some g ∧ g < B ∧ w.var? Tryz.prog n = some #[.iface tp p]
def Errs (B : Nat) (w : World) : Prop := ErrAt B w "strconv.ErrSyntax" ∧ ErrAt B w "strconv.ErrRange"

theorem ErrAt.on {B : Nat} {w w' : World} {n : String} (h : ErrAt B w n) (hb : Below B w w') : ErrAt B w' n := by
  obtain ⟨g, tp, p, hg, hlt, hv⟩ := h
  refine ⟨g, tp, p, hg, hlt, ?_⟩
  unfold World.var? at hv ⊢
  rw [hg] at hv ⊢
  simp only [Option.bind_some] at hv ⊢
  rw [hb.block g hlt]
  exact hv
theorem Errs.on {B : Nat} {w w' : World} (h : Errs B w) (hb : Below B w w') : Errs B w' := ⟨h.1.on hb, h.2.on hb⟩

theorem parseInt_ok (s : ByteArray) (v : Int) (w : World) (hs : s.size ≤ 1048576) (h : Lib.parseIntB 64 s.data.toList = .ok v) :
    Calls Tryz.prog 81 #[.string s, .int .i64 10, .int .i64 64] w fun e w' => e = .returned (.tuple #[.int .i64 v, .nilIface]) ∧ Below w.heap.size w w' :=
  (Tryz.strconv_ParseInt_10_at64_ok s (by omega) v h w).mono fun e w' ⟨he, hw⟩ => ⟨he, by
    rcases hw with rfl | ⟨t, rfl⟩
    · exact Below.refl _ _
    · exact Lib.bytesWorld_below w _ t⟩
theorem parseUint_ok (s : ByteArray) (u : Nat) (w : World) (hs : s.size ≤ 1048576) (h : Lib.parseUintB 64 s.data.toList = .ok u) :
    Calls Tryz.prog 72 #[.string s, .int .i64 10, .int .i64 64] w fun e w' => e = .returned (.tuple #[.int .u64 u, .nilIface]) ∧ Below w.heap.size w w' :=
  (Tryz.strconv_ParseUint_10_at64_ok s (by omega) u h w).mono fun e w' ⟨he, hw⟩ => ⟨he, by
    rcases hw with rfl | rfl
    · exact Below.refl _ _
    · exact Lib.bytesWorld_below w _ s⟩

/-- A number that does not matter, and an error. -/
def Fails (k : IntKind) (w : World) (e : Ending) (w' : World) : Prop := ∃ (x : Int) (t : TypeId) (p : Value), e = .returned (.tuple #[.int k x, .iface t p]) ∧ Below w.heap.size w w'

theorem parseInt_err (s : ByteArray) (B : Nat) (w : World) (hs : s.size ≤ 1048576) (he : Errs B w) (h : ∀ v, Lib.parseIntB 64 s.data.toList ≠ .ok v) :
    Calls Tryz.prog 81 #[.string s, .int .i64 10, .int .i64 64] w (Fails .i64 w) := by
  obtain ⟨⟨_, tp, p, _, _, hv⟩, ⟨_, tq, q, _, _, hq⟩⟩ := he
  rcases hh : Lib.parseIntB 64 s.data.toList with v | _ | _
  · exact absurd hh (h v)
  · exact (Any.strconv_ParseInt_10_at64_syntax_var Tryz.laysC174 s (by omega) hh tp p w hv).mono fun e w' ⟨N, he, _, _, hb⟩ => ⟨_, _, _, he, hb⟩
  · exact (Any.strconv_ParseInt_10_at64_range_var Tryz.laysC174 s (by omega) hh tq q w hq).mono fun e w' ⟨N, he, _, _, hb⟩ => ⟨_, _, _, he, hb⟩
theorem parseUint_err (s : ByteArray) (B : Nat) (w : World) (hs : s.size ≤ 1048576) (he : Errs B w) (h : ∀ v, Lib.parseUintB 64 s.data.toList ≠ .ok v) :
    Calls Tryz.prog 72 #[.string s, .int .i64 10, .int .i64 64] w (Fails .u64 w) := by
  obtain ⟨⟨_, tp, p, _, _, hv⟩, ⟨_, tq, q, _, _, hq⟩⟩ := he
  rcases hh : Lib.parseUintB 64 s.data.toList with v | _ | _
  · exact absurd hh (h v)
  · exact (Any.strconv_ParseUint_10_at64_syntax_var Tryz.laysPu14 s (by omega) hh tp p w hv).mono fun e w' ⟨N, he, _, _, hb⟩ => ⟨_, _, _, he, hb⟩
  · exact (Any.strconv_ParseUint_10_at64_range_var Tryz.laysPu14 s (by omega) hh tq q w hq).mono fun e w' ⟨N, he, _, _, hb⟩ => ⟨_, _, _, he, hb⟩

/- What the digits of a number are read as. -/
theorem parse_fold : ∀ (l : List UInt8) (m : Nat), (∀ c ∈ l, 48 ≤ c.toNat ∧ c.toNat ≤ 57) → l.foldl (fun n c => 10 * n + (c.toNat - 48)) m ≤ 18446744073709551615 → Lib.parseUintM 18446744073709551615 m l = .ok (l.foldl (fun n c => 10 * n + (c.toNat - 48)) m)
  | [], m, _, _ => rfl
  | c :: l, m, hd, h => by
    have hc := hd c (by simp)
    have hg := fold_ge l (10 * m + (c.toNat - 48))
    simp only [List.foldl_cons] at h ⊢
    simp only [Lib.parseUintM]
    rw [if_pos hc, if_neg (by omega), if_neg (by omega), show m * 10 + (c.toNat - 48) = 10 * m + (c.toNat - 48) by omega]
    exact parse_fold l _ (fun x hx => hd x (by simp [hx])) h
theorem parseUint_digits {u : Nat} (h : u < 18446744073709551616) : Lib.parseUintB 64 (Lib.decDigits u) = .ok u := by
  have hf := decVal_digits u
  unfold decVal at hf
  have := parse_fold (Lib.decDigits u) 0 (dec_all u) (by omega)
  unfold Lib.parseUintB
  rw [if_neg (dec_ne u)]
  rw [hf] at this
  exact this
theorem parseInt_itoa {x : Int} (h : In64 x) : Lib.parseIntB 64 (Lib.itoa x) = .ok x := by
  unfold In64 at h
  have hu := parseUint_digits (u := x.natAbs) (by omega)
  obtain ⟨c, l, e, hc⟩ := dec_cons x.natAbs
  rw [itoa_parts]
  by_cases hx : x < 0
  · rw [if_pos hx, List.cons_append, List.nil_append]
    unfold Lib.parseIntB
    simp only [show (45 : UInt8).toNat = 45 from rfl, or_true, if_true, hu]
    rw [if_neg (by simp), if_neg (by omega)]
    congr 1
    omega
  · rw [if_neg hx, List.nil_append]
    rw [e] at hu ⊢
    unfold Lib.parseIntB
    simp only [show ¬ (c.toNat = 43 ∨ c.toNat = 45) by omega, if_false, hu]
    rw [if_neg (by omega), if_neg (by omega), if_neg (by omega)]
    congr 1
    omega
theorem parseInt_in {l : List UInt8} {v : Int} (h : Lib.parseIntB 64 l = .ok v) : In64 v := by
  have := Lib.parseIntB_bounds h
  have e : ((2 ^ (64 - 1) : Nat) : Int) = 9223372036854775808 := by decide
  rw [e] at this
  unfold In64
  omega

end Go.Proofs.YtiokdfkddcokoaaGreatDoor
