/- '==' of two arrays or structs of whole numbers. Conditions: none. -/
import Derived.Test.YtajilipbnfpemaaDoorWords
import Derived.Laws.StructEq
namespace Go.Proofs.YtajilipbnfpemaaDoor
open Go.RowKit

section
variable {P : Program}

theorem part_int {e : TypeId} (ha : ∀ w, (isAgg e).run P w = .ok false w) (cs : Array Value) (i : Nat) (v : Value) (h : cs[i]? = some v) (w : World) : (part e cs i).run P w = .ok v w := by
  simp [part, ha, h]

theorem run_eq_array2 (d : Nat) (t e : TypeId) (k : IntKind) (ht : P.underlying t = some (.array 2 e)) (he : P.underlying e = some (.int k)) (ha : ∀ w, (isAgg e).run P w = .ok false w) (hs : ∀ w, (sizeOf e).run P w = .ok 1 w) (a b x y : Int) (w : World) :
    (Op.equalIn (d + 2) t (.agg #[.int k a, .int k b]) (.agg #[.int k x, .int k y])).run P w = .ok ((a == x) && (b == y)) w := by
  have p0 : ∀ (u v : Int) (w : World), (part e #[.int k u, .int k v] 0).run P w = .ok (.int k u) w := fun u v w => part_int ha _ 0 _ rfl w
  have p1 : ∀ (u v : Int) (w : World), (part e #[.int k u, .int k v] 1).run P w = .ok (.int k v) w := fun u v w => part_int ha _ 1 _ rfl w
  have hi := fun (u v : Int) (w : World) => run_equalIn_int w d e k k u v he
  unfold Op.equalIn
  by_cases h1 : a = x
  · by_cases h2 : b = y
    · simp [run_underlying ht, hs, List.range', p0, p1, hi, h1, h2]
    · simp [run_underlying ht, hs, List.range', p0, p1, hi, h1, h2]
  · simp [run_underlying ht, hs, List.range', p0, hi, h1]

theorem run_eq_array5 (d : Nat) (t e : TypeId) (k : IntKind) (ht : P.underlying t = some (.array 5 e)) (he : P.underlying e = some (.int k)) (ha : ∀ w, (isAgg e).run P w = .ok false w) (hs : ∀ w, (sizeOf e).run P w = .ok 1 w) (a0 a1 a2 a3 a4 b0 b1 b2 b3 b4 : Int) (w : World) :
    (Op.equalIn (d + 2) t (.agg #[.int k a0, .int k a1, .int k a2, .int k a3, .int k a4]) (.agg #[.int k b0, .int k b1, .int k b2, .int k b3, .int k b4])).run P w = .ok ((a0 == b0) && ((a1 == b1) && ((a2 == b2) && ((a3 == b3) && (a4 == b4))))) w := by
  have p0 : ∀ (x0 x1 x2 x3 x4 : Int) (w : World), (part e #[.int k x0, .int k x1, .int k x2, .int k x3, .int k x4] 0).run P w = .ok (.int k x0) w := fun _ _ _ _ _ w => part_int ha _ 0 _ rfl w
  have p1 : ∀ (x0 x1 x2 x3 x4 : Int) (w : World), (part e #[.int k x0, .int k x1, .int k x2, .int k x3, .int k x4] 1).run P w = .ok (.int k x1) w := fun _ _ _ _ _ w => part_int ha _ 1 _ rfl w
  have p2 : ∀ (x0 x1 x2 x3 x4 : Int) (w : World), (part e #[.int k x0, .int k x1, .int k x2, .int k x3, .int k x4] 2).run P w = .ok (.int k x2) w := fun _ _ _ _ _ w => part_int ha _ 2 _ rfl w
  have p3 : ∀ (x0 x1 x2 x3 x4 : Int) (w : World), (part e #[.int k x0, .int k x1, .int k x2, .int k x3, .int k x4] 3).run P w = .ok (.int k x3) w := fun _ _ _ _ _ w => part_int ha _ 3 _ rfl w
  have p4 : ∀ (x0 x1 x2 x3 x4 : Int) (w : World), (part e #[.int k x0, .int k x1, .int k x2, .int k x3, .int k x4] 4).run P w = .ok (.int k x4) w := fun _ _ _ _ _ w => part_int ha _ 4 _ rfl w
  have hi := fun (u v : Int) (w : World) => run_equalIn_int w d e k k u v he
  unfold Op.equalIn
  by_cases h0 : a0 = b0
  · by_cases h1 : a1 = b1
    · by_cases h2 : a2 = b2
      · by_cases h3 : a3 = b3
        · by_cases h4 : a4 = b4
          · simp [run_underlying ht, hs, List.range', p0, p1, p2, p3, p4, hi, h0, h1, h2, h3, h4]
          · simp [run_underlying ht, hs, List.range', p0, p1, p2, p3, p4, hi, h0, h1, h2, h3, h4]
        · simp [run_underlying ht, hs, List.range', p0, p1, p2, p3, hi, h0, h1, h2, h3]
      · simp [run_underlying ht, hs, List.range', p0, p1, p2, hi, h0, h1, h2]
    · simp [run_underlying ht, hs, List.range', p0, p1, hi, h0, h1]
  · simp [run_underlying ht, hs, List.range', p0, hi, h0]

theorem run_eql_of {t : TypeId} {xs ys : Array Value} {b : Bool} {w : World} (h : (Op.equalIn 10000 t (.agg xs) (.agg ys)).run P w = .ok b w) : (binOp .eql t (.agg xs) (.agg ys)).run P w = .ok (.bool b) w := by
  rw [run_eql_struct, h]; rfl
theorem run_neq_of {t : TypeId} {xs ys : Array Value} {b : Bool} {w : World} (h : (Op.equalIn 10000 t (.agg xs) (.agg ys)).run P w = .ok b w) : (binOp .neq t (.agg xs) (.agg ys)).run P w = .ok (.bool (!b)) w := by
  rw [run_neq_struct, h]; rfl
end

theorem aggInt : ∀ w, (isAgg 3).run Tryd.prog w = .ok false w := Tryd.isAgg3
theorem aggU64 : ∀ w, (isAgg 24).run Tryd.prog w = .ok false w := Tryd.isAgg24
theorem sizeInt : ∀ w, (sizeOf 3).run Tryd.prog w = .ok 1 w := Tryd.sizeOf3
theorem sizeU64 : ∀ w, (sizeOf 24).run Tryd.prog w = .ok 1 w := Tryd.sizeOf24

/-- Pairs of words. -/
theorem eql2 (a b x y : Int) (w : World) : (binOp .eql 25 (.agg #[.int .u64 a, .int .u64 b]) (.agg #[.int .u64 x, .int .u64 y])).run Tryd.prog w = .ok (.bool ((a == x) && (b == y))) w :=
  run_eql_of (run_eq_array2 9998 _ _ _ Tryd.underlying25 Tryd.underlying24 aggU64 sizeU64 a b x y w)
theorem neq2 (a b x y : Int) (w : World) : (binOp .neq 25 (.agg #[.int .u64 a, .int .u64 b]) (.agg #[.int .u64 x, .int .u64 y])).run Tryd.prog w = .ok (.bool (!((a == x) && (b == y)))) w :=
  run_neq_of (run_eq_array2 9998 _ _ _ Tryd.underlying25 Tryd.underlying24 aggU64 sizeU64 a b x y w)
theorem eql5 (a0 a1 a2 a3 a4 b0 b1 b2 b3 b4 : Int) (w : World) : (binOp .eql 69 (.agg #[.int .i64 a0, .int .i64 a1, .int .i64 a2, .int .i64 a3, .int .i64 a4]) (.agg #[.int .i64 b0, .int .i64 b1, .int .i64 b2, .int .i64 b3, .int .i64 b4])).run Tryd.prog w = .ok (.bool ((a0 == b0) && ((a1 == b1) && ((a2 == b2) && ((a3 == b3) && (a4 == b4)))))) w :=
  run_eql_of (run_eq_array5 9998 _ _ _ Tryd.underlying69 Tryd.underlying3 aggInt sizeInt a0 a1 a2 a3 a4 b0 b1 b2 b3 b4 w)
theorem guard2 (op : BinOp) (x y : Operand) (xs ys : Array Value) (w : World) : (eqGuard op 25 x y (.agg xs) (.agg ys)).run Tryd.prog w = .ok () w := run_eqGuard_agg w op _ x y xs ys (by kernel_rfl)
theorem guard5 (op : BinOp) (x y : Operand) (xs ys : Array Value) (w : World) : (eqGuard op 69 x y (.agg xs) (.agg ys)).run Tryd.prog w = .ok () w := run_eqGuard_agg w op _ x y xs ys (by kernel_rfl)
theorem guardT (op : BinOp) (x y : Operand) (xs ys : Array Value) (w : World) : (eqGuard op 23 x y (.agg xs) (.agg ys)).run Tryd.prog w = .ok () w := run_eqGuard_agg w op _ x y xs ys (by kernel_rfl)
theorem eqlT (a0 a1 a2 a3 a4 b0 b1 b2 b3 b4 : Int) (w : World) : (binOp .eql 23 (.agg #[.int .i64 a0, .int .i64 a1, .int .i64 a2, .int .i64 a3, .int .i64 a4]) (.agg #[.int .i64 b0, .int .i64 b1, .int .i64 b2, .int .i64 b3, .int .i64 b4])).run Tryd.prog w = .ok (.bool ((a0 == b0) && ((a1 == b1) && ((a2 == b2) && ((a3 == b3) && (a4 == b4)))))) w := by
  refine run_eql_of ?_
  have hi := fun (u v : Int) (w : World) => run_equalIn_int (P := Tryd.prog) w 9998 3 .i64 .i64 u v Tryd.underlying3
  rw [run_equalIn_struct (P := Tryd.prog) w 9999 23 _ _ (by kernel_rfl) (by kernel_rfl)]
  have p0 : ∀ (x0 x1 x2 x3 x4 : Int) (w : World), (part 3 #[.int .i64 x0, .int .i64 x1, .int .i64 x2, .int .i64 x3, .int .i64 x4] 0).run Tryd.prog w = .ok (.int .i64 x0) w := fun _ _ _ _ _ w => part_int aggInt _ 0 _ rfl w
  have p1 : ∀ (x0 x1 x2 x3 x4 : Int) (w : World), (part 3 #[.int .i64 x0, .int .i64 x1, .int .i64 x2, .int .i64 x3, .int .i64 x4] 1).run Tryd.prog w = .ok (.int .i64 x1) w := fun _ _ _ _ _ w => part_int aggInt _ 1 _ rfl w
  have p2 : ∀ (x0 x1 x2 x3 x4 : Int) (w : World), (part 3 #[.int .i64 x0, .int .i64 x1, .int .i64 x2, .int .i64 x3, .int .i64 x4] 2).run Tryd.prog w = .ok (.int .i64 x2) w := fun _ _ _ _ _ w => part_int aggInt _ 2 _ rfl w
  have p3 : ∀ (x0 x1 x2 x3 x4 : Int) (w : World), (part 3 #[.int .i64 x0, .int .i64 x1, .int .i64 x2, .int .i64 x3, .int .i64 x4] 3).run Tryd.prog w = .ok (.int .i64 x3) w := fun _ _ _ _ _ w => part_int aggInt _ 3 _ rfl w
  have p4 : ∀ (x0 x1 x2 x3 x4 : Int) (w : World), (part 3 #[.int .i64 x0, .int .i64 x1, .int .i64 x2, .int .i64 x3, .int .i64 x4] 4).run Tryd.prog w = .ok (.int .i64 x4) w := fun _ _ _ _ _ w => part_int aggInt _ 4 _ rfl w
  simp only [Program.fieldsOf, Tryd.underlying23]
  by_cases h0 : a0 = b0
  · by_cases h1 : a1 = b1
    · by_cases h2 : a2 = b2
      · by_cases h3 : a3 = b3
        · by_cases h4 : a4 = b4
          · simp [Op.eqFields, p0, p1, p2, p3, p4, hi, h0, h1, h2, h3, h4]
          · simp [Op.eqFields, p0, p1, p2, p3, p4, hi, h0, h1, h2, h3, h4]
        · simp [Op.eqFields, p0, p1, p2, p3, hi, h0, h1, h2, h3]
      · simp [Op.eqFields, p0, p1, p2, hi, h0, h1, h2]
    · simp [Op.eqFields, p0, p1, hi, h0, h1]
  · simp [Op.eqFields, p0, hi, h0]

end Go.Proofs.YtajilipbnfpemaaDoor
