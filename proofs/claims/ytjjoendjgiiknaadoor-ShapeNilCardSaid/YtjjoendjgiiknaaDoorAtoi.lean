/- strconv.Atoi: a value or an error. Conditions: the two sentinels hold interface values. -/
import Derived.Test.YtjjoendjgiiknaaDoorShelfB
import Derived.Test.YtjjoendjgiiknaaDoorItoa
import Derived.Lib.ParseIntBTie
import Derived.Lib.ParseIntBCases
namespace Go.Proofs.YtjjoendjgiiknaaDoor
open Go.RowKit

/-- A variable below B holds an interface value that is not nil. -/
def ErrAt (B : Nat) (w : World) (n : String) : Prop := ∃ g tp p, Tryd.prog.globalNamed n = some g ∧ g < B ∧ w.var? Tryd.prog n = some #[.iface tp p]
def Errs (B : Nat) (w : World) : Prop := ErrAt B w "strconv.ErrSyntax" ∧ ErrAt B w "strconv.ErrRange"

theorem ErrAt.on {B : Nat} {w w' : World} {n : String} (h : ErrAt B w n) (hb : Below B w w') : ErrAt B w' n := by
  obtain ⟨g, tp, p, hg, hlt, hv⟩ := h
  refine ⟨g, tp, p, hg, hlt, ?_⟩
  unfold World.var? at hv ⊢
  rw [hg] at hv ⊢
  simp only [Option.bind_some] at hv ⊢
  rw [hb.block g hlt]
  exact hv
theorem Errs.on {B : Nat} {w w' : World} (h : Errs B w) (hb : Below B w w') : Errs B w' := ⟨h.1.on hb, h.2.on hb⟩

/-- A number that does not matter, and an error. -/
def Fails (k : IntKind) (w : World) (e : Ending) (w' : World) : Prop := ∃ (x : Int) (t : TypeId) (p : Value), e = .returned (.tuple #[.int k x, .iface t p]) ∧ Below w.heap.size w w'

theorem fold_ge : ∀ (l : List UInt8) (m : Nat), m ≤ l.foldl (fun n c => 10 * n + (c.toNat - 48)) m
  | [], m => Nat.le_refl _
  | c :: l, m => by
    have := fold_ge l (10 * m + (c.toNat - 48))
    simp only [List.foldl_cons]
    omega
/- What the digits of a number are read as. -/
theorem parse_fold : ∀ (l : List UInt8) (m : Nat), (∀ c ∈ l, 48 ≤ c.toNat ∧ c.toNat ≤ 57) → l.foldl (fun n c => 10 * n + (c.toNat - 48)) m ≤ 18446744073709551615 → Lib.parseUintM 18446744073709551615 m l = .ok (l.foldl (fun n c => 10 * n + (c.toNat - 48)) m)
  | [], m, _, _ => rfl
  | c :: l, m, hd, h => by
    have hc := hd c (by simp)
    have hg := fold_ge l (10 * m + (c.toNat - 48))
    simp only [List.foldl_cons] at h ⊢
    simp only [Lib.parseUintM]
    rw [if_pos hc, if_neg (by omega), if_neg (by omega), show m * 10 + (c.toNat - 48) = 10 * m + (c.toNat - 48) by omega]
    exact parse_fold l _ (fun x hx => hd x (by simp [hx])) h
theorem parseUint_digits {u : Nat} (h : u < 18446744073709551616) : Lib.parseUintB 64 (Lib.decDigits u) = .ok u := by
  have hf := decVal_digits u
  unfold decVal at hf
  have := parse_fold (Lib.decDigits u) 0 (dec_all u) (by omega)
  unfold Lib.parseUintB
  rw [if_neg (dec_ne u)]
  rw [hf] at this
  exact this
theorem parseInt_itoa {x : Int} (h : In64 x) : Lib.parseIntB 64 (Lib.itoa x) = .ok x := by
  unfold In64 at h
  have hu := parseUint_digits (u := x.natAbs) (by omega)
  obtain ⟨c, l, e, hc⟩ := dec_cons x.natAbs
  rw [itoa_parts]
  by_cases hx : x < 0
  · rw [if_pos hx, List.cons_append, List.nil_append]
    unfold Lib.parseIntB
    simp only [show (45 : UInt8).toNat = 45 from rfl, or_true, if_true, hu]
    rw [if_neg (by simp), if_neg (by omega)]
    congr 1
    omega
  · rw [if_neg hx, List.nil_append]
    rw [e] at hu ⊢
    unfold Lib.parseIntB
    simp only [show ¬ (c.toNat = 43 ∨ c.toNat = 45) by omega, if_false, hu]
    rw [if_neg (by omega), if_neg (by omega), if_neg (by omega)]
    congr 1
    omega

theorem atoi_itoa {x : Int} (h : In64 x) : Lib.atoiAll (Lib.itoa x) = .ok x := by
  rw [← Lib.parseIntB_64]
  exact parseInt_itoa h

theorem atoi_ok (s : ByteArray) (v : Int) (w : World) (hs : s.size ≤ 1048576) (h : Lib.atoiAll s.data.toList = .ok v) :
    Calls Tryd.prog 35 #[.string s] w fun e w' => e = .returned (.tuple #[.int .i64 v, .nilIface]) ∧ Below w.heap.size w w' :=
  (Tryd.strconv_Atoi_ok s (by omega) v h w).mono fun e w' ⟨he, hw⟩ => ⟨he, by
    rcases hw with rfl | ⟨t, rfl⟩
    · exact Below.refl _ _
    · exact Lib.bytesWorld_below w _ t⟩
theorem atoi_err (s : ByteArray) (B : Nat) (w : World) (hs : s.size ≤ 1048576) (he : Errs B w) (h : ∀ v, Lib.atoiAll s.data.toList ≠ .ok v) :
    Calls Tryd.prog 35 #[.string s] w (Fails .i64 w) := by
  obtain ⟨⟨_, tp, p, _, _, hv⟩, ⟨_, tq, q, _, _, hq⟩⟩ := he
  rcases hh : Lib.atoiAll s.data.toList with v | _ | _
  · exact absurd hh (h v)
  · exact (Any.strconv_Atoi_syntax_var Tryd.laysC172 s (by omega) hh tp p w hv).mono fun e w' ⟨N, he, _, _, hb⟩ => ⟨_, _, _, he, hb⟩
  · exact (Any.strconv_Atoi_range_var Tryd.laysC172 s (by omega) hh tq q w hq).mono fun e w' ⟨N, he, _, _, hb⟩ => ⟨_, _, _, he, hb⟩

/-- The number of a word that a name may have. -/
def wordN (w : List UInt8) : Option Int := match Lib.atoiAll w with
  | .ok n => if 0 ≤ n ∧ n ≤ 1048576 then some n else none
  | _ => none
/-- The numbers of words, up to the first that is none. -/
def numsU : List (List UInt8) → List Int
  | [] => []
  | w :: ws => match wordN w with
    | some n => n :: numsU ws
    | none => []

theorem wordN_ok {w : List UInt8} {n : Int} (h : wordN w = some n) : Lib.atoiAll w = .ok n ∧ 0 ≤ n ∧ n ≤ 1048576 := by
  unfold wordN at h
  split at h
  · rename_i m hm
    split at h
    · injection h with h
      subst h
      rename_i hb
      exact ⟨hm, hb⟩
    · cases h
  · cases h
theorem wordN_no {w : List UInt8} (h : wordN w = none) : (∀ v, Lib.atoiAll w ≠ .ok v) ∨ ∃ v, Lib.atoiAll w = .ok v ∧ (v < 0 ∨ 1048576 < v) := by
  unfold wordN at h
  split at h
  · rename_i m hm
    split at h
    · cases h
    · exact .inr ⟨m, hm, by omega⟩
  · rename_i hn
    exact .inl fun v hv => hn v hv
theorem wordN_itoa {x : Int} (h : 0 ≤ x ∧ x ≤ 1048576) : wordN (Lib.itoa x) = some x := by
  unfold wordN
  rw [atoi_itoa (by unfold In64; omega)]
  dsimp only
  rw [if_pos h]
theorem numsU_itoa : ∀ {l : List Int}, (∀ x ∈ l, 0 ≤ x ∧ x ≤ 1048576) → numsU (l.map Lib.itoa) = l
  | [], _ => rfl
  | x :: l, h => by
    rw [List.map_cons]
    unfold numsU
    rw [wordN_itoa (h x (by simp))]
    dsimp only
    rw [numsU_itoa fun y hy => h y (by simp [hy])]

end Go.Proofs.YtjjoendjgiiknaaDoor
