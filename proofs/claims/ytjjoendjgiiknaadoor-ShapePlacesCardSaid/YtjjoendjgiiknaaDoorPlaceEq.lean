/- Walks: '==' of two places. Conditions: none. -/
import Derived.Test.YtjjoendjgiiknaaDoorShapeRange
import Derived.Test.YtjjoendjgiiknaaDoorRefName
namespace Go.Proofs.YtjjoendjgiiknaaDoor
open Go.RowKit

theorem eqP (a b c x y z : Int) (w : World) : (Op.equalIn 10000 49 (.agg #[.int .i64 a, .int .i64 b, .int .i64 c]) (.agg #[.int .i64 x, .int .i64 y, .int .i64 z])).run Tryd.prog w = .ok ((a == x) && (b == y) && (c == z)) w := by
  have hi := fun (u v : Int) (w : World) => run_equalIn_int (P := Tryd.prog) w 9998 3 .i64 .i64 u v Tryd.underlying3
  rw [run_equalIn_struct (P := Tryd.prog) w 9999 49 _ _ (by kernel_rfl) (by kernel_rfl)]
  have p0 : ∀ (u v t : Int) (w : World), (part 3 #[.int .i64 u, .int .i64 v, .int .i64 t] 0).run Tryd.prog w = .ok (.int .i64 u) w := fun _ _ _ w => part_int2 Tryd.isAgg3 _ 0 _ rfl w
  have p1 : ∀ (u v t : Int) (w : World), (part 3 #[.int .i64 u, .int .i64 v, .int .i64 t] 1).run Tryd.prog w = .ok (.int .i64 v) w := fun _ _ _ w => part_int2 Tryd.isAgg3 _ 1 _ rfl w
  have p2 : ∀ (u v t : Int) (w : World), (part 3 #[.int .i64 u, .int .i64 v, .int .i64 t] 2).run Tryd.prog w = .ok (.int .i64 t) w := fun _ _ _ w => part_int2 Tryd.isAgg3 _ 2 _ rfl w
  simp only [Program.fieldsOf, Tryd.underlying49]
  by_cases h0 : a = x
  · by_cases h1 : b = y
    · by_cases h2 : c = z
      · simp [Op.eqFields, p0, p1, p2, hi, h0, h1, h2]
      · simp [Op.eqFields, p0, p1, p2, hi, h0, h1, h2]
    · simp [Op.eqFields, p0, p1, hi, h0, h1]
  · simp [Op.eqFields, p0, hi, h0]
theorem eqlP (a b c : Int) (w : World) : (binOp .eql 49 (.agg #[.int .i64 a, .int .i64 b, .int .i64 c]) (.agg #[.int .i64 a, .int .i64 b, .int .i64 c])).run Tryd.prog w = .ok (.bool true) w := by
  rw [run_eql_struct, eqP]
  rw [show ((a == a) && (b == b) && (c == c)) = true by simp]; rfl
theorem guardP (op : BinOp) (x y : Operand) (xs ys : Array Value) (w : World) : (eqGuard op 49 x y (.agg xs) (.agg ys)).run Tryd.prog w = .ok () w := run_eqGuard_agg w op _ x y xs ys (by kernel_rfl)

end Go.Proofs.YtjjoendjgiiknaaDoor
