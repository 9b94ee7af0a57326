/- Abstract heaps: a tree of objects by their names' digits; which worlds an abstract heap stands for. Conditions: none. -/
import Derived.Test.YtoafihjgpbcgbaaGreatSiVal
namespace Go.Proofs.YtoafihjgpbcgbaaGreat.Si
noncomputable section
open Go.RowKit

/-- An object of an abstract heap. -/
inductive AO where
  | cells (cs : List AV) (t : TypeId)
  | loop (st : LoopState) (pend : Option Code) (tmps : List AV) (ps : Array Tmp) (assign body : Code) (dfr ri : Nat)
  | dfr
  deriving Inhabited

/-- A tree of objects: all leaves lie at one depth. -/
inductive Tr where
  | e
  | leaf (o : AO)
  | n (l r : Tr)
  deriving Inhabited

def Tr.getS : Nat → Tr → Nat → Option AO
  | 0, .leaf o, _ => some o
  | d + 1, .n l r, i => match i % 2 with
    | 0 => l.getS d (i / 2)
    | _ => r.getS d (i / 2)
  | _, _, _ => none
def Tr.setS : Nat → Tr → Nat → Option AO → Tr
  | 0, _, _, some o => .leaf o
  | 0, _, _, none => .e
  | d + 1, .n l r, i, o => match i % 2 with
    | 0 => .n (l.setS d (i / 2) o) r
    | _ => .n l (r.setS d (i / 2) o)
  | d + 1, _, i, o => match i % 2 with
    | 0 => .n (Tr.setS d .e (i / 2) o) .e
    | _ => .n .e (Tr.setS d .e (i / 2) o)

theorem Tr.getS_e : ∀ (d i : Nat), Tr.getS d .e i = none
  | 0, _ => rfl
  | _ + 1, _ => rfl

theorem Tr.getS_setS : ∀ (d : Nat) (t : Tr) (i j : Nat) (o : Option AO), i < 2 ^ d → j < 2 ^ d → (t.setS d i o).getS d j = if j = i then o else t.getS d j
  | 0, t, i, j, o, hi, hj => by
    have : j = i := by simp at hi hj; omega
    rw [if_pos this]
    cases o <;> cases t <;> rfl
  | d + 1, t, i, j, o, hi, hj => by
    have hi2 : i / 2 < 2 ^ d := by rw [Nat.pow_succ] at hi; omega
    have hj2 : j / 2 < 2 ^ d := by rw [Nat.pow_succ] at hj; omega
    rcases Nat.mod_two_eq_zero_or_one i with h0 | h0 <;> rcases Nat.mod_two_eq_zero_or_one j with k0 | k0
    · cases t with
      | n l r =>
        simp only [Tr.setS, Tr.getS, h0, k0]
        rw [Tr.getS_setS d l _ _ o hi2 hj2]
        have : (j / 2 = i / 2) = (j = i) := by apply propext; constructor <;> intro h <;> omega
        simp only [this]
      | e =>
        simp only [Tr.setS, Tr.getS, h0, k0]
        rw [Tr.getS_setS d .e _ _ o hi2 hj2, Tr.getS_e]
        have : (j / 2 = i / 2) = (j = i) := by apply propext; constructor <;> intro h <;> omega
        simp only [this]
      | leaf x =>
        simp only [Tr.setS, Tr.getS, h0, k0]
        rw [Tr.getS_setS d .e _ _ o hi2 hj2, Tr.getS_e]
        have : (j / 2 = i / 2) = (j = i) := by apply propext; constructor <;> intro h <;> omega
        simp only [this]
    · have hne : ¬ j = i := by omega
      rw [if_neg hne]
      cases t <;> simp only [Tr.setS, Tr.getS, h0, k0, Tr.getS_e]
    · have hne : ¬ j = i := by omega
      rw [if_neg hne]
      cases t <;> simp only [Tr.setS, Tr.getS, h0, k0, Tr.getS_e]
    · cases t with
      | n l r =>
        simp only [Tr.setS, Tr.getS, h0, k0]
        rw [Tr.getS_setS d r _ _ o hi2 hj2]
        have : (j / 2 = i / 2) = (j = i) := by apply propext; constructor <;> intro h <;> omega
        simp only [this]
      | e =>
        simp only [Tr.setS, Tr.getS, h0, k0]
        rw [Tr.getS_setS d .e _ _ o hi2 hj2, Tr.getS_e]
        have : (j / 2 = i / 2) = (j = i) := by apply propext; constructor <;> intro h <;> omega
        simp only [this]
      | leaf x =>
        simp only [Tr.setS, Tr.getS, h0, k0]
        rw [Tr.getS_setS d .e _ _ o hi2 hj2, Tr.getS_e]
        have : (j / 2 = i / 2) = (j = i) := by apply propext; constructor <;> intro h <;> omega
        simp only [this]

/-- The same by plain recursion, for the kernel. -/
def Tr.get (d : Nat) : Tr → Nat → Option AO := Nat.rec (motive := fun _ => Tr → Nat → Option AO) (fun t _ => Tr.rec (motive := fun _ => Option AO) none (fun o => some o) (fun _ _ _ _ => none) t)
  (fun _ ih t i => Tr.rec (motive := fun _ => Option AO) none (fun _ => none) (fun l r _ _ => Nat.rec (motive := fun _ => Option AO) (ih l (Nat.div i 2)) (fun _ _ => ih r (Nat.div i 2)) (Nat.mod i 2)) t) d
def Tr.set (d : Nat) : Tr → Nat → Option AO → Tr := Nat.rec (motive := fun _ => Tr → Nat → Option AO → Tr) (fun _ _ o => Option.rec (motive := fun _ => Tr) .e (fun x => .leaf x) o)
  (fun _ ih t i o => Tr.rec (motive := fun _ => Tr) (Nat.rec (motive := fun _ => Tr) (.n (ih .e (Nat.div i 2) o) .e) (fun _ _ => .n .e (ih .e (Nat.div i 2) o)) (Nat.mod i 2)) (fun _ => Nat.rec (motive := fun _ => Tr) (.n (ih .e (Nat.div i 2) o) .e) (fun _ _ => .n .e (ih .e (Nat.div i 2) o)) (Nat.mod i 2))
    (fun l r _ _ => Nat.rec (motive := fun _ => Tr) (.n (ih l (Nat.div i 2) o) r) (fun _ _ => .n l (ih r (Nat.div i 2) o)) (Nat.mod i 2)) t) d
theorem Tr.get_eq : ∀ (d : Nat) (t : Tr) (i : Nat), t.get d i = t.getS d i
  | 0, .e, _ => rfl
  | 0, .leaf _, _ => rfl
  | 0, .n _ _, _ => rfl
  | _ + 1, .e, _ => rfl
  | _ + 1, .leaf _, _ => rfl
  | d + 1, .n l r, i => by
    have h0 : Tr.get (d + 1) (.n l r) i = Nat.rec (motive := fun _ => Option AO) (l.get d (i / 2)) (fun _ _ => r.get d (i / 2)) (i % 2) := rfl
    rw [h0, Tr.get_eq d l, Tr.get_eq d r]
    rcases Nat.mod_two_eq_zero_or_one i with h | h <;> simp only [Tr.getS, h] <;> rfl
theorem Tr.set_eq : ∀ (d : Nat) (t : Tr) (i : Nat) (o : Option AO), t.set d i o = t.setS d i o
  | 0, _, _, none => rfl
  | 0, _, _, some _ => rfl
  | d + 1, .e, i, o => by
    have h0 : Tr.set (d + 1) .e i o = Nat.rec (motive := fun _ => Tr) (.n (Tr.set d .e (i / 2) o) .e) (fun _ _ => .n .e (Tr.set d .e (i / 2) o)) (i % 2) := rfl
    rw [h0, Tr.set_eq d .e]
    rcases Nat.mod_two_eq_zero_or_one i with h | h <;> simp only [Tr.setS, h] <;> rfl
  | d + 1, .leaf x, i, o => by
    have h0 : Tr.set (d + 1) (.leaf x) i o = Nat.rec (motive := fun _ => Tr) (.n (Tr.set d .e (i / 2) o) .e) (fun _ _ => .n .e (Tr.set d .e (i / 2) o)) (i % 2) := rfl
    rw [h0, Tr.set_eq d .e]
    rcases Nat.mod_two_eq_zero_or_one i with h | h <;> simp only [Tr.setS, h] <;> rfl
  | d + 1, .n l r, i, o => by
    have h0 : Tr.set (d + 1) (.n l r) i o = Nat.rec (motive := fun _ => Tr) (.n (l.set d (i / 2) o) r) (fun _ _ => .n l (r.set d (i / 2) o)) (i % 2) := rfl
    rw [h0, Tr.set_eq d l, Tr.set_eq d r]
    rcases Nat.mod_two_eq_zero_or_one i with h | h <;> simp only [Tr.setS, h] <;> rfl
theorem Tr.get_set (d : Nat) (t : Tr) (i j : Nat) (o : Option AO) (hi : i < 2 ^ d) (hj : j < 2 ^ d) : (t.set d i o).get d j = if j = i then o else t.get d j := by
  rw [Tr.get_eq, Tr.get_eq, Tr.set_eq]
  exact Tr.getS_setS d t i j o hi hj

/-- How many digits a name has. -/
def dep : Nat := 11

/-- An abstract state: the objects by name, the next name. -/
structure St where
  t : Tr
  next : Nat
  deriving Inhabited

def St.get (s : St) (i : Nat) : Option AO := s.t.get dep i
def St.put (s : St) (i : Nat) (o : Option AO) : St := ⟨s.t.set dep i o, s.next⟩
/-- A new object. -/
def St.new (s : St) (o : AO) : St := ⟨s.t.set dep s.next (some o), s.next + 1⟩

theorem St.get_put {s : St} {i j : Nat} {o : Option AO} (hi : i < 2 ^ dep) (hj : j < 2 ^ dep) : (s.put i o).get j = if j = i then o else s.get j := Tr.get_set dep s.t i j o hi hj
theorem St.get_new {s : St} {j : Nat} {o : AO} (hi : s.next < 2 ^ dep) (hj : j < 2 ^ dep) : (s.new o).get j = if j = s.next then some o else s.get j := Tr.get_set dep s.t s.next j (some o) hi hj

/-- The object o lies at L in the world w. -/
def Lies (φ : Phi) (w : World) (L : Loc) : AO → Prop
  | .cells cs t => ∃ (C : Array Value) (vs : List Value), w.heap[L.blk]? = some (.cells C t (0, 0)) ∧ C.size = L.base + L.size ∧ cs.length ≤ L.size ∧ concL φ cs = some vs ∧ ∀ (j : Nat) (v : Value), vs[j]? = some v → C[L.base + j]? = some v
  | .loop st pend tmps ps assign body dfr _ => ∃ (fn : FuncId) (ts : List Value) (D : Loc), w.heap[L.blk]? = some (.loop { state := st, pending := pend, fn := fn, tmps := ts.toArray, params := ps, assign := assign, body := body, defers := D.blk }) ∧ concL φ tmps = some ts ∧ φ dfr = some D
  | .dfr => w.heap[L.blk]? = some (.deferred (some []))

theorem Lies.mono {φ φ' : Phi} {w : World} {L : Loc} {o : AO} (h : φ.le φ') (hl : Lies φ w L o) : Lies φ' w L o := by
  cases o with
  | cells cs t => obtain ⟨C, vs, h1, h2, h3, h4, h5⟩ := hl; exact ⟨C, vs, h1, h2, h3, concL_mono h _ _ h4, h5⟩
  | loop => obtain ⟨fn, ts, D, h1, h2, h3⟩ := hl; exact ⟨fn, ts, D, h1, concL_mono h _ _ h2, h _ _ h3⟩
  | dfr => exact hl
theorem Lies.heap {φ : Phi} {w w' : World} {L : Loc} {o : AO} (hw : w'.heap[L.blk]? = w.heap[L.blk]?) (hl : Lies φ w L o) : Lies φ w' L o := by
  cases o with
  | cells cs t => obtain ⟨C, vs, h1, h⟩ := hl; exact ⟨C, vs, hw.trans h1, h⟩
  | loop => obtain ⟨fn, ts, D, h1, h⟩ := hl; exact ⟨fn, ts, D, hw.trans h1, h⟩
  | dfr => exact hw.trans hl

/-- The world w stands for the abstract state s, names having the places φ: every object whose name has a place lies there; no two lie in one block; all of them lie from block B on; below B all is as it was in w0. -/
structure Stands (B : Nat) (w0 : World) (φ : Phi) (s : St) (w : World) : Prop where
  below : Below B w0 w
  size : B ≤ w.heap.size
  room : s.next ≤ 2 ^ dep
  dom : ∀ i L, φ i = some L → i < s.next ∧ B ≤ L.blk ∧ L.blk < w.heap.size
  lies : ∀ i L o, φ i = some L → s.get i = some o → Lies φ w L o
  apart : ∀ i j L M o p, φ i = some L → φ j = some M → s.get i = some o → s.get j = some p → L.blk = M.blk → i = j

theorem Stands.lt {B : Nat} {w0 : World} {φ : Phi} {s : St} {w : World} (h : Stands B w0 φ s w) {i : Nat} {L : Loc} (hi : φ i = some L) : i < 2 ^ dep := Nat.lt_of_lt_of_le (h.dom i L hi).1 h.room

end
end Go.Proofs.YtoafihjgpbcgbaaGreat.Si
