/- The interpreter's test of two tags. Conditions: none. -/
import Derived.Test.YtoafihjgpbcgbaaGreatSiAll
import Derived.Laws.StructEq
import Derived.KernelRfl
namespace Go.Proofs.YtoafihjgpbcgbaaGreat.Si
noncomputable section
open Go.RowKit

section
variable {P : Program}

theorem part_int {e : TypeId} (ha : ∀ w, (isAgg e).run P w = .ok false w) (cs : Array Value) (i : Nat) (v : Value) (h : cs[i]? = some v) (w : World) : (part e cs i).run P w = .ok v w := by
  simp [part, ha, h]

theorem run_eql_of {t : TypeId} {xs ys : Array Value} {b : Bool} {w : World} (h : (Op.equalIn 10000 t (.agg xs) (.agg ys)).run P w = .ok b w) : (binOp .eql t (.agg xs) (.agg ys)).run P w = .ok (.bool b) w := by
  rw [run_eql_struct, h]; rfl
theorem run_neq_of {t : TypeId} {xs ys : Array Value} {b : Bool} {w : World} (h : (Op.equalIn 10000 t (.agg xs) (.agg ys)).run P w = .ok b w) : (binOp .neq t (.agg xs) (.agg ys)).run P w = .ok (.bool (!b)) w := by
  rw [run_neq_struct, h]; rfl
end

theorem aggInt : ∀ w, (isAgg 3).run Tryz.prog w = .ok false w := fun w => by simp [isAgg, run_underlying Tryz.underlying3 w]
theorem guardT (op : BinOp) (x y : Operand) (xs ys : Array Value) (w : World) : (eqGuard op 80 x y (.agg xs) (.agg ys)).run Tryz.prog w = .ok () w := run_eqGuard_agg w op _ x y xs ys (by kernel_rfl)
theorem eqT (a0 a1 a2 a3 a4 b0 b1 b2 b3 b4 : Int) (w : World) : (Op.equalIn 10000 80 (.agg #[.int .i64 a0, .int .i64 a1, .int .i64 a2, .int .i64 a3, .int .i64 a4]) (.agg #[.int .i64 b0, .int .i64 b1, .int .i64 b2, .int .i64 b3, .int .i64 b4])).run Tryz.prog w = .ok ((a0 == b0) && ((a1 == b1) && ((a2 == b2) && ((a3 == b3) && (a4 == b4))))) w := by
  have hi := fun (u v : Int) (w : World) => run_equalIn_int (P := Tryz.prog) w 9998 3 .i64 .i64 u v Tryz.underlying3
  rw [run_equalIn_struct (P := Tryz.prog) w 9999 80 _ _ (by kernel_rfl) (by kernel_rfl)]
  have p0 : ∀ (x0 x1 x2 x3 x4 : Int) (w : World), (part 3 #[.int .i64 x0, .int .i64 x1, .int .i64 x2, .int .i64 x3, .int .i64 x4] 0).run Tryz.prog w = .ok (.int .i64 x0) w := fun _ _ _ _ _ w => part_int aggInt _ 0 _ rfl w
  have p1 : ∀ (x0 x1 x2 x3 x4 : Int) (w : World), (part 3 #[.int .i64 x0, .int .i64 x1, .int .i64 x2, .int .i64 x3, .int .i64 x4] 1).run Tryz.prog w = .ok (.int .i64 x1) w := fun _ _ _ _ _ w => part_int aggInt _ 1 _ rfl w
  have p2 : ∀ (x0 x1 x2 x3 x4 : Int) (w : World), (part 3 #[.int .i64 x0, .int .i64 x1, .int .i64 x2, .int .i64 x3, .int .i64 x4] 2).run Tryz.prog w = .ok (.int .i64 x2) w := fun _ _ _ _ _ w => part_int aggInt _ 2 _ rfl w
  have p3 : ∀ (x0 x1 x2 x3 x4 : Int) (w : World), (part 3 #[.int .i64 x0, .int .i64 x1, .int .i64 x2, .int .i64 x3, .int .i64 x4] 3).run Tryz.prog w = .ok (.int .i64 x3) w := fun _ _ _ _ _ w => part_int aggInt _ 3 _ rfl w
  have p4 : ∀ (x0 x1 x2 x3 x4 : Int) (w : World), (part 3 #[.int .i64 x0, .int .i64 x1, .int .i64 x2, .int .i64 x3, .int .i64 x4] 4).run Tryz.prog w = .ok (.int .i64 x4) w := fun _ _ _ _ _ w => part_int aggInt _ 4 _ rfl w
  simp only [Program.fieldsOf, Tryz.underlying80]
  by_cases h0 : a0 = b0
  · by_cases h1 : a1 = b1
    · by_cases h2 : a2 = b2
      · by_cases h3 : a3 = b3
        · by_cases h4 : a4 = b4
          · simp [Op.eqFields, p0, p1, p2, p3, p4, hi, h0, h1, h2, h3, h4]
          · simp [Op.eqFields, p0, p1, p2, p3, p4, hi, h0, h1, h2, h3, h4]
        · simp [Op.eqFields, p0, p1, p2, p3, hi, h0, h1, h2, h3]
      · simp [Op.eqFields, p0, p1, p2, hi, h0, h1, h2]
    · simp [Op.eqFields, p0, p1, hi, h0, h1]
  · simp [Op.eqFields, p0, hi, h0]

theorem eqlT (a0 a1 a2 a3 a4 b0 b1 b2 b3 b4 : Int) (w : World) : (binOp .eql 80 (.agg #[.int .i64 a0, .int .i64 a1, .int .i64 a2, .int .i64 a3, .int .i64 a4]) (.agg #[.int .i64 b0, .int .i64 b1, .int .i64 b2, .int .i64 b3, .int .i64 b4])).run Tryz.prog w = .ok (.bool ((a0 == b0) && ((a1 == b1) && ((a2 == b2) && ((a3 == b3) && (a4 == b4)))))) w := run_eql_of (eqT a0 a1 a2 a3 a4 b0 b1 b2 b3 b4 w)
theorem neqT (a0 a1 a2 a3 a4 b0 b1 b2 b3 b4 : Int) (w : World) : (binOp .neq 80 (.agg #[.int .i64 a0, .int .i64 a1, .int .i64 a2, .int .i64 a3, .int .i64 a4]) (.agg #[.int .i64 b0, .int .i64 b1, .int .i64 b2, .int .i64 b3, .int .i64 b4])).run Tryz.prog w = .ok (.bool (!((a0 == b0) && ((a1 == b1) && ((a2 == b2) && ((a3 == b3) && (a4 == b4))))))) w := run_neq_of (eqT a0 a1 a2 a3 a4 b0 b1 b2 b3 b4 w)

/-- Two tags are compared. -/
def tagE (tt : TypeId) : Cal := fun ρ s o => match o.op with
  | .binOp op t x y _ => bif Nat.beq t tt then (match ρ x, ρ y with
    | some (.agg [.int .i64 a0, .int .i64 a1, .int .i64 a2, .int .i64 a3, .int .i64 a4]), some (.agg [.int .i64 b0, .int .i64 b1, .int .i64 b2, .int .i64 b3, .int .i64 b4]) => match op with
      | .eql => some (.bool ((a0 == b0) && ((a1 == b1) && ((a2 == b2) && ((a3 == b3) && (a4 == b4))))), s)
      | .neq => some (.bool (!((a0 == b0) && ((a1 == b1) && ((a2 == b2) && ((a3 == b3) && (a4 == b4)))))), s)
      | _ => none
    | _, _ => none) else none
  | _ => none

theorem tagE_ok (F : Fence) (n : Nat) (hF : ∀ f, F.fn f) : CalOk F n Tryz.prog (tagE 80) := by
  intro B w0 w φ ρ s s' o a r hρ hs hcal K Q hK
  unfold tagE at hcal
  split at hcal
  · rename_i op t x y tr ho
    cases hb : Nat.beq t 80 with
    | false => rw [hb] at hcal; cases hcal
    | true =>
      rw [hb] at hcal
      have ht := Nat.eq_of_beq_eq_true hb
      subst ht
      simp only [cond_true] at hcal
      split at hcal
      · rename_i a0 a1 a2 a3 a4 b0 b1 b2 b3 b4 hx hy
        have ex := hρ _ _ hx
        have ey := hρ _ _ hy
        have ex' : a.eval x = .agg #[.int .i64 a0, .int .i64 a1, .int .i64 a2, .int .i64 a3, .int .i64 a4] := by
          simp [conc, conc.concL] at ex
          exact ex.symm
        have ey' : a.eval y = .agg #[.int .i64 b0, .int .i64 b1, .int .i64 b2, .int .i64 b3, .int .i64 b4] := by
          simp [conc, conc.concL] at ey
          exact ey.symm
        have hd : ∀ c, o.op ≠ .defer c := fun c e => by rw [e] at ho; cases ho
        split at hcal
        · simp only [Option.some.injEq, Prod.mk.injEq] at hcal
          obtain ⟨rfl, rfl⟩ := hcal
          refine wp_of_run hF hd (nx := .value (.bool ((a0 == b0) && ((a1 == b1) && ((a2 == b2) && ((a3 == b3) && (a4 == b4))))))) ?_ (.inl rfl) (hK φ w _ (Eff.refl hs) rfl)
          simp only [execOp, ho, ex', ey', Sem.run_bind, guardT, Result.andThen_ok, eqlT, Sem.run_pure]
        · simp only [Option.some.injEq, Prod.mk.injEq] at hcal
          obtain ⟨rfl, rfl⟩ := hcal
          refine wp_of_run hF hd (nx := .value (.bool (!((a0 == b0) && ((a1 == b1) && ((a2 == b2) && ((a3 == b3) && (a4 == b4)))))))) ?_ (.inl rfl) (hK φ w _ (Eff.refl hs) rfl)
          simp only [execOp, ho, ex', ey', Sem.run_bind, guardT, Result.andThen_ok, neqT, Sem.run_pure]
        · cases hcal
      · cases hcal
  · cases hcal

end
end Go.Proofs.YtoafihjgpbcgbaaGreat.Si
