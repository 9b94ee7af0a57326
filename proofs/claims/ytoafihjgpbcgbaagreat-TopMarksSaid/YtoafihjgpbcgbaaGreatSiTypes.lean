/- The tables hold of the program: types by a test that the kernel runs, functions one by one, methods. Conditions: none. -/
import Derived.Test.YtoafihjgpbcgbaaGreatSiTab
import Derived.KernelRfl
namespace Go.Proofs.YtoafihjgpbcgbaaGreat.Si
noncomputable section
open Go.RowKit

def sizeB (P : Program) (t n : Nat) : Bool := match P.info? t with
  | some i => Nat.beq i.size n
  | none => false
def rowB (P : Program) (t : Nat) (b : Bool) : Bool := match P.underlying t with
  | some d => d.isRow == b
  | none => false
theorem sizeB_ok {P : Program} {t n : Nat} (h : sizeB P t n = true) : (P.info? t).map (·.size) = some n := by
  unfold sizeB at h
  split at h
  · rename_i i hi
    rw [hi]
    simp [Nat.eq_of_beq_eq_true h]
  · cases h
theorem rowB_ok {P : Program} {t : Nat} {b : Bool} (h : rowB P t b = true) : ∃ d, P.underlying t = some d ∧ d.isRow = b := by
  unfold rowB at h
  split at h
  · rename_i d hd
    exact ⟨d, hd, by simpa using h⟩
  · cases h

def fieldsB (P : Program) : List FD → List Field → Bool
  | [], [] => true
  | f :: r, g :: l => Nat.beq g.type f.type && Nat.beq g.offset f.off && sizeB P f.type f.size && Nat.blt 0 f.size && rowB P f.type f.agg && fieldsB P r l
  | _, _ => false
theorem fieldsB_ok {P : Program} : ∀ {fs : List FD} {l : List Field}, fieldsB P fs l = true → l.map (fun f => (f.type, f.offset)) = fs.map (fun f => (f.type, f.off)) ∧
    ∀ f ∈ fs, (P.info? f.type).map (·.size) = some f.size ∧ 0 < f.size ∧ ∃ d', P.underlying f.type = some d' ∧ d'.isRow = f.agg
  | [], [], _ => ⟨rfl, fun f h => by cases h⟩
  | [], _ :: _, h => by cases h
  | _ :: _, [], h => by cases h
  | f :: r, g :: l, h => by
    simp only [fieldsB, Bool.and_eq_true] at h
    obtain ⟨⟨⟨⟨⟨h1, h2⟩, h3⟩, h4⟩, h5⟩, h6⟩ := h
    obtain ⟨k1, k2⟩ := fieldsB_ok h6
    refine ⟨by simp [k1, Nat.eq_of_beq_eq_true h1, Nat.eq_of_beq_eq_true h2], fun q hq => ?_⟩
    rcases List.mem_cons.1 hq with rfl | hq
    · exact ⟨sizeB_ok h3, Nat.le_of_ble_eq_true h4, rowB_ok h5⟩
    · exact k2 q hq

def kindB (P : Program) : TK → TypeDesc → Bool
  | .other, _ => true
  | .bool, .bool => true
  | .int k, .int l => k == l
  | .ptr, .pointer e => !(sizeB P e 0)
  | .slice e, .slice f => Nat.beq e f
  | .struct fs, .struct F => fieldsB P fs F.toList
  | .array n e es ea, .array m f => Nat.beq n m && Nat.beq e f && sizeB P e es && rowB P e ea
  | _, _ => false

def typeB (P : Program) (t : Nat) (i : TI) : Bool := (match P.info? t with
    | some f => Nat.beq f.size i.size && Nat.beq f.bytes i.bytes && (match f.zero with
      | some z => (match absCs z.cells.toList with
        | some l => beqL l i.zero
        | none => false)
      | none => false)
    | none => false) && Nat.beq i.zero.length i.size && Nat.blt 0 i.size && (match P.underlying t with
    | some d => (d.isRow == i.agg) && kindB P i.k d
    | none => false)

theorem typeB_ok {P : Program} {t : Nat} {i : TI} (h : typeB P t i = true) : TypeOk P t i := by
  simp only [typeB, Bool.and_eq_true] at h
  obtain ⟨⟨⟨h1, h2⟩, h3⟩, h4⟩ := h
  refine ⟨?_, Nat.eq_of_beq_eq_true h2, Nat.le_of_ble_eq_true h3, ?_⟩
  · split at h1
    · rename_i f hf
      simp only [Bool.and_eq_true] at h1
      obtain ⟨⟨a1, a2⟩, a3⟩ := h1
      split at a3
      · rename_i z hz
        split at a3
        · rename_i l hl
          refine ⟨z, ?_, ?_⟩
          · rw [hf]
            simp [Nat.eq_of_beq_eq_true a1, Nat.eq_of_beq_eq_true a2, hz]
          · rw [hl, beqL_eq _ _ a3]
        · cases a3
      · cases a3
    · cases h1
  · split at h4
    · rename_i d hd
      simp only [Bool.and_eq_true] at h4
      refine ⟨d, hd, by simpa using h4.1, ?_⟩
      have h5 := h4.2
      generalize i.k = kk at h5
      unfold kindB at h5
      split at h5
      · trivial
      · rfl
      · rename_i k l
        have e : k = l := by simpa using h5
        exact e ▸ rfl
      · rename_i e
        refine ⟨e, rfl, fun hs => ?_⟩
        unfold sizeB at h5
        split at h5
        · rename_i q hq
          rw [hq] at hs
          simp at hs
          rw [hs] at h5
          cases h5
        · rename_i hq
          rw [hq] at hs
          cases hs
      · rename_i e f
        have e1 : e = f := Nat.eq_of_beq_eq_true h5
        exact e1 ▸ rfl
      · rename_i fs F
        obtain ⟨k1, k2⟩ := fieldsB_ok h5
        exact ⟨F, rfl, k1, k2⟩
      · simp only [Bool.and_eq_true] at h5
        obtain ⟨⟨⟨a1, a2⟩, a3⟩, a4⟩ := h5
        exact ⟨by rw [Nat.eq_of_beq_eq_true a1, Nat.eq_of_beq_eq_true a2], sizeB_ok a3, rowB_ok a4⟩
      · cases h5
    · cases h4

def typesB (P : Program) (T : TT) : Bool := T.all fun p => typeB P p.1 p.2
theorem typesB_ok {P : Program} {T : TT} (h : typesB P T = true) : TypesOk P T := fun p hp => typeB_ok ((List.all_eq_true.1 h) p hp)

/-- A function that has a body and is none of the machine's own is entered. -/
def bodyB (fn : Func) : Bool := fn.body.isSome && !(fn.name == "runtime.NumGoroutine")
theorem enter_ok {P : Program} {f : Nat} {fn : Func} (hf : P.funcs[f]? = some fn) (hb : bodyB fn = true) (qs : Array Value) (w : World) : (callFunc f qs).run P w = .ok (.enter f qs) w := by
  simp only [bodyB, Bool.and_eq_true, Bool.not_eq_true'] at hb
  have h1 : ¬ (fn.body = none) := by
    intro e
    rw [e] at hb
    exact absurd hb.1 (by simp)
  have h2 : ¬ (fn.name = "runtime.NumGoroutine") := by simpa using hb.2
  simp [callFunc, Sem.run_bind, hf, h2, h1]

/-- The functions are the program's. -/
def FuncsAre (P : Program) : FTabR → Prop
  | [] => True
  | p :: r => P.funcs[p.1]? = some p.2.1 ∧ FuncsAre P r
theorem FuncsAre.at {P : Program} : ∀ {FT : FTabR}, FuncsAre P FT → ∀ p ∈ FT, P.funcs[p.1]? = some p.2.1
  | [], _, p, hp => by cases hp
  | q :: r, h, p, hp => by
    rcases List.mem_cons.1 hp with rfl | hp
    · exact h.1
    · exact FuncsAre.at h.2 p hp
theorem ftab_ok {P : Program} {FT : FTabR} (h : FuncsAre P FT) (hb : FT.all (fun p => bodyB p.2.1) = true) : FTabOk P FT := fun p hp => ⟨h.at p hp, fun qs w => enter_ok (h.at p hp) ((List.all_eq_true.1 hb) p hp) qs w⟩

end
end Go.Proofs.YtoafihjgpbcgbaaGreat.Si
