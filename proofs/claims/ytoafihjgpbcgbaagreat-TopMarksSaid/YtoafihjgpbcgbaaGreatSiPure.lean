/- The interpreter's operations that read no memory: they yield in every world what they stand for. Conditions: none. -/
import Derived.Test.YtoafihjgpbcgbaaGreatSiType
import Derived.Lib.SliceRun
namespace Go.Proofs.YtoafihjgpbcgbaaGreat.Si
noncomputable section
open Go.RowKit

/-- Arithmetic and comparison of two integers of one kind. -/
def binI (op : BinOp) (k : IntKind) (a b : Int) : Option AV :=
  match op with
  | .add => some (.int k (k.wrap (a + b)))
  | .sub => some (.int k (k.wrap (a - b)))
  | .mul => some (.int k (k.wrap (a * b)))
  | .quo => if b = 0 then none else some (.int k (k.wrap (a.tdiv b)))
  | .rem => if b = 0 then none else some (.int k (a.tmod b))
  | .and => some (.int k (k.wrap (BitVec.ofInt k.bits a &&& BitVec.ofInt k.bits b).toNat))
  | .or => some (.int k (k.wrap (BitVec.ofInt k.bits a ||| BitVec.ofInt k.bits b).toNat))
  | .eql => some (.bool (a == b))
  | .neq => some (.bool (a != b))
  | .lss => some (.bool (a < b))
  | .leq => some (.bool (a ≤ b))
  | .gtr => some (.bool (a > b))
  | .geq => some (.bool (a ≥ b))
  | _ => none

/-- A shift. -/
def shiftI (op : BinOp) (k : IntKind) (a b : Int) : Option AV :=
  if b < 0 then none else match op with
  | .shl => some (.int k (k.wrap (a * 2 ^ (min b.toNat k.bits))))
  | .shr => some (.int k (a.fdiv (2 ^ (min b.toNat k.bits))))
  | _ => none

/-- Is it nil? (pointers, slices) -/
def isNil : AV → Option Bool
  | .pnil => some true
  | .ptr _ _ => some false
  | .snil => some true
  | .sl _ _ _ _ _ _ => some false
  | _ => none

/-- Equality of all integers of two rows. -/
def eqInts : List AV → List AV → Option Bool
  | [], [] => some true
  | .int k a :: r, .int l b :: s => if k = l then (eqInts r s).map fun t => a == b && t else none
  | _, _ => none

/-- Two lists of operands. -/
def evalL (ρ : Operand → Option AV) : List Operand → Option (List AV)
  | [] => some []
  | x :: r => (ρ x).bind fun a => (evalL ρ r).map fun l => a :: l

theorem evalL_ok {φ : Phi} {ρ : Operand → Option AV} {ρc : Operand → Value} (hρ : ∀ x a, ρ x = some a → conc φ a = some (ρc x)) : ∀ {l : List Operand} {as' : List AV}, evalL ρ l = some as' → concL φ as' = some (l.map ρc)
  | [], _, h => by cases h; rfl
  | x :: r, _, h => by
    simp only [evalL, Option.bind_eq_some_iff, Option.map_eq_some_iff] at h
    obtain ⟨a, h1, l, h2, rfl⟩ := h
    simp [concL_cons, hρ x a h1, evalL_ok hρ h2]

/-- What a binary operation yields. -/
def binA (T : TT) (op : BinOp) (t : TypeId) (x y : AV) : Option AV :=
  match op, x, y with
  | .shl, .int k a, .int _ b => shiftI .shl k a b
  | .shr, .int k a, .int _ b => shiftI .shr k a b
  | _, .int k a, .int l b => if k = l then binI op k a b else none
  | .eql, .bool a, .bool b => match look T t with
    | some { k := .bool, .. } => some (.bool (a == b))
    | _ => none
  | .neq, .bool a, .bool b => match look T t with
    | some { k := .bool, .. } => some (.bool (!(a == b)))
    | _ => none
  | .eql, .ptr _ _, .pnil => match look T t with
    | some { k := .ptr, .. } => some (.bool false)
    | _ => none
  | .neq, .ptr _ _, .pnil => match look T t with
    | some { k := .ptr, .. } => some (.bool true)
    | _ => none
  | .eql, .pnil, .pnil => match look T t with
    | some { k := .ptr, .. } => some (.bool true)
    | _ => none
  | .neq, .pnil, .pnil => match look T t with
    | some { k := .ptr, .. } => some (.bool false)
    | _ => none
  | .eql, .sl _ _ _ _ _ _, .snil => match look T t with
    | some { k := .slice _, .. } => some (.bool false)
    | _ => none
  | .neq, .sl _ _ _ _ _ _, .snil => match look T t with
    | some { k := .slice _, .. } => some (.bool true)
    | _ => none
  | .eql, .snil, .snil => match look T t with
    | some { k := .slice _, .. } => some (.bool true)
    | _ => none
  | .neq, .snil, .snil => match look T t with
    | some { k := .slice _, .. } => some (.bool false)
    | _ => none
  | _, _, _ => none

section
variable {P : Program} {φ : Phi}

theorem binI_ok {op : BinOp} {k : IntKind} {a b : Int} {r : AV} (h : binI op k a b = some r) (h1 : op ≠ .shl) (h2 : op ≠ .shr) (t : TypeId) : ∃ v, conc φ r = some v ∧ ∀ w, (binOp op t (.int k a) (.int k b)).run P w = .ok v w := by
  cases op <;> simp only [binI] at h <;> first
    | (cases h; done)
    | exact absurd rfl h1
    | exact absurd rfl h2
    | (injection h with h; subst h; exact ⟨_, rfl, fun w => by simp [binOp, Op.intArith, Op.intBits, Op.intCmp]⟩)
    | (split at h
       · cases h
       · injection h with h; subst h; exact ⟨_, rfl, fun w => by simp_all [binOp, Op.intDiv]⟩)

theorem shiftI_ok {op : BinOp} {k l : IntKind} {a b : Int} {r : AV} (h : shiftI op k a b = some r) (t : TypeId) : ∃ v, conc φ r = some v ∧ ∀ w, (binOp op t (.int k a) (.int l b)).run P w = .ok v w := by
  unfold shiftI at h
  split at h
  · cases h
  · rename_i hb
    cases op <;> simp only at h <;> first
      | (cases h; done)
      | (injection h with h; subst h; exact ⟨_, rfl, fun w => by simp [binOp, Op.shift, hb]⟩)

theorem guard_ok {op : BinOp} {t : TypeId} {x y : Operand} {a b : Value} (h : ∀ u v, ¬ (a = .agg u ∧ b = .agg v)) (h2 : ¬ (a = .nilIface ∧ b = .nilIface)) (w : World) : (eqGuard op t x y a b).run P w = .ok () w := by
  unfold eqGuard
  cases op <;> simp <;> split <;> simp_all

theorem eqIn_bool {t : TypeId} (h : P.underlying t = some .bool) (a b : Bool) (d : Nat) (w : World) : (Op.equalIn (d + 1) t (.bool a) (.bool b)).run P w = .ok (a == b) w := by
  simp only [Op.equalIn]
  rw [Sem.run_bind, run_underlying h w]
  simp
theorem eqIn_ptr {t e : TypeId} (h : P.underlying t = some (.pointer e)) (a : Addr) (d : Nat) (w : World) : (Op.equalIn (d + 1) t (.pointer (some a)) (.pointer none)).run P w = .ok false w := by
  simp only [Op.equalIn]
  rw [Sem.run_bind, run_underlying h w]
  simp
theorem eqIn_nil {t e : TypeId} (h : P.underlying t = some (.pointer e)) (d : Nat) (w : World) : (Op.equalIn (d + 1) t (.pointer none) (.pointer none)).run P w = .ok true w := by
  simp only [Op.equalIn]
  rw [Sem.run_bind, run_underlying h w]
  simp
theorem eq_bool {t : TypeId} (h : P.underlying t = some .bool) (a b : Bool) (w : World) : (Op.equal t (.bool a) (.bool b)).run P w = .ok (a == b) w := eqIn_bool h a b 9999 w
theorem eq_ptr {t e : TypeId} (h : P.underlying t = some (.pointer e)) (a : Addr) (w : World) : (Op.equal t (.pointer (some a)) (.pointer none)).run P w = .ok false w := eqIn_ptr h a 9999 w
theorem eq_nil {t e : TypeId} (h : P.underlying t = some (.pointer e)) (w : World) : (Op.equal t (.pointer none) (.pointer none)).run P w = .ok true w := eqIn_nil h 9999 w

theorem conc_slice {id off len cap es : Nat} {ex : Bool} {v : Value} (h : conc φ (.sl id off len cap ex es) = some v) : ∃ x c, v = .slice (some x) len c := by
  simp only [conc, Option.bind_eq_some_iff] at h
  obtain ⟨L, h1, h2⟩ := h
  by_cases hc : cap ≤ (if ex then cap else (L.size - off) / es)
  · rw [if_pos hc] at h2
    injection h2 with h2
    exact ⟨_, _, h2.symm⟩
  · rw [if_neg hc] at h2
    cases h2

theorem eq_sl {t e : TypeId} (h : P.underlying t = some (.slice e)) (a : Option Addr) (n c : Nat) (w : World) : (Op.equal t (.slice a n c) (.slice none 0 0)).run P w = .ok a.isNone w := Lib.run_equalIn_slice_nil w 9999 t e a n c 0 0 h

theorem bin_ok {T : TT} (hT : TypesOk P T) {op : BinOp} {t : TypeId} {x y : AV} {r : AV} (h : binA T op t x y = some r) {a b : Value} (ha : conc φ x = some a) (hb : conc φ y = some b) (ox oy : Operand) :
    ∃ v, conc φ r = some v ∧ ∀ w, (eqGuard op t ox oy a b).run P w = .ok () w ∧ (binOp op t a b).run P w = .ok v w := by
  unfold binA at h
  split at h
  · injection ha with ha; injection hb with hb; subst ha hb
    obtain ⟨v, h1, h2⟩ := shiftI_ok (P := P) (φ := φ) h t
    exact ⟨v, h1, fun w => ⟨guard_ok (by simp) (by simp) w, h2 w⟩⟩
  · injection ha with ha; injection hb with hb; subst ha hb
    obtain ⟨v, h1, h2⟩ := shiftI_ok (P := P) (φ := φ) h t
    exact ⟨v, h1, fun w => ⟨guard_ok (by simp) (by simp) w, h2 w⟩⟩
  · rename_i n1 n2
    injection ha with ha; injection hb with hb; subst ha hb
    split at h
    · rename_i hk
      subst hk
      obtain ⟨v, h1, h2⟩ := binI_ok (P := P) (φ := φ) h n1 n2 t
      exact ⟨v, h1, fun w => ⟨guard_ok (by simp) (by simp) w, h2 w⟩⟩
    · cases h
  all_goals first
    | (cases h; done)
    | (split at h
       · rename_i hl
         obtain ⟨d, hd, _, hk⟩ := (hT.at hl).kind
         injection h with h
         subst h
         first
           | (injection ha with ha; injection hb with hb; subst ha hb; have hk : d = .bool := hk; subst hk
              exact ⟨_, rfl, fun w => ⟨guard_ok (by simp) (by simp) w, by simp [binOp, eq_bool hd]⟩⟩)
           | (injection ha with ha; injection hb with hb; subst ha hb; have hk : d = .slice _ := hk; subst hk
              exact ⟨_, rfl, fun w => ⟨guard_ok (by simp) (by simp) w, by simp [binOp, eq_sl hd]⟩⟩)
           | (obtain ⟨x, c, rfl⟩ := conc_slice ha
              injection hb with hb; subst hb; have hk : d = .slice _ := hk; subst hk
              exact ⟨_, rfl, fun w => ⟨guard_ok (by simp) (by simp) w, by simp [binOp, eq_sl hd]⟩⟩)
           | (injection ha with ha; injection hb with hb; subst ha hb; obtain ⟨e, rfl, _⟩ := hk
              exact ⟨_, rfl, fun w => ⟨guard_ok (by simp) (by simp) w, by simp [binOp, eq_nil hd]⟩⟩)
           | (simp only [conc, Option.map_eq_some_iff] at ha
              obtain ⟨L, _, rfl⟩ := ha
              injection hb with hb; subst hb; obtain ⟨e, rfl, _⟩ := hk
              exact ⟨_, rfl, fun w => ⟨guard_ok (by simp) (by simp) w, by simp [binOp, eq_ptr hd]⟩⟩)
       · cases h)

end
end
end Go.Proofs.YtoafihjgpbcgbaaGreat.Si
