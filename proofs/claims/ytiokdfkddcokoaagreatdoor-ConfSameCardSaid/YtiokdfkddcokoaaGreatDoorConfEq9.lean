/- The law of == at nine numbers; the numbers that conf.Same compares. Conditions: none. -/
import Derived.Test.YtiokdfkddcokoaaGreatDoorRefConfT
import Derived.Test.YtiokdfkddcokoaaGreatDoorEqualInt
import Derived.Laws.StructEq
namespace Go.Proofs.YtiokdfkddcokoaaGreatDoor
open Go.RowKit

section
variable {P : Program}
theorem part_int {e : TypeId} (ha : ∀ w, (isAgg e).run P w = .ok false w) (cs : Array Value) (i : Nat) (v : Value) (h : cs[i]? = some v) (w : World) : (part e cs i).run P w = .ok v w := by
  simp [part, ha, h]
theorem run_eq_array9 (d : Nat) (t e : TypeId) (k : IntKind) (ht : P.underlying t = some (.array 9 e)) (he : P.underlying e = some (.int k)) (ha : ∀ w, (isAgg e).run P w = .ok false w) (hs : ∀ w, (sizeOf e).run P w = .ok 1 w) (a0 a1 a2 a3 a4 a5 a6 a7 a8 b0 b1 b2 b3 b4 b5 b6 b7 b8 : Int) (w : World) :
    (Op.equalIn (d + 2) t (.agg #[.int k a0, .int k a1, .int k a2, .int k a3, .int k a4, .int k a5, .int k a6, .int k a7, .int k a8]) (.agg #[.int k b0, .int k b1, .int k b2, .int k b3, .int k b4, .int k b5, .int k b6, .int k b7, .int k b8])).run P w = .ok ((a0 == b0) && ((a1 == b1) && ((a2 == b2) && ((a3 == b3) && ((a4 == b4) && ((a5 == b5) && ((a6 == b6) && ((a7 == b7) && (a8 == b8))))))))) w := by
  have p0 : ∀ (x0 x1 x2 x3 x4 x5 x6 x7 x8 : Int) (w : World), (part e #[.int k x0, .int k x1, .int k x2, .int k x3, .int k x4, .int k x5, .int k x6, .int k x7, .int k x8] 0).run P w = .ok (.int k x0) w := fun _ _ _ _ _ _ _ _ _ w => part_int ha _ 0 _ rfl w
  have p1 : ∀ (x0 x1 x2 x3 x4 x5 x6 x7 x8 : Int) (w : World), (part e #[.int k x0, .int k x1, .int k x2, .int k x3, .int k x4, .int k x5, .int k x6, .int k x7, .int k x8] 1).run P w = .ok (.int k x1) w := fun _ _ _ _ _ _ _ _ _ w => part_int ha _ 1 _ rfl w
  have p2 : ∀ (x0 x1 x2 x3 x4 x5 x6 x7 x8 : Int) (w : World), (part e #[.int k x0, .int k x1, .int k x2, .int k x3, .int k x4, .int k x5, .int k x6, .int k x7, .int k x8] 2).run P w = .ok (.int k x2) w := fun _ _ _ _ _ _ _ _ _ w => part_int ha _ 2 _ rfl w
  have p3 : ∀ (x0 x1 x2 x3 x4 x5 x6 x7 x8 : Int) (w : World), (part e #[.int k x0, .int k x1, .int k x2, .int k x3, .int k x4, .int k x5, .int k x6, .int k x7, .int k x8] 3).run P w = .ok (.int k x3) w := fun _ _ _ _ _ _ _ _ _ w => part_int ha _ 3 _ rfl w
  have p4 : ∀ (x0 x1 x2 x3 x4 x5 x6 x7 x8 : Int) (w : World), (part e #[.int k x0, .int k x1, .int k x2, .int k x3, .int k x4, .int k x5, .int k x6, .int k x7, .int k x8] 4).run P w = .ok (.int k x4) w := fun _ _ _ _ _ _ _ _ _ w => part_int ha _ 4 _ rfl w
  have p5 : ∀ (x0 x1 x2 x3 x4 x5 x6 x7 x8 : Int) (w : World), (part e #[.int k x0, .int k x1, .int k x2, .int k x3, .int k x4, .int k x5, .int k x6, .int k x7, .int k x8] 5).run P w = .ok (.int k x5) w := fun _ _ _ _ _ _ _ _ _ w => part_int ha _ 5 _ rfl w
  have p6 : ∀ (x0 x1 x2 x3 x4 x5 x6 x7 x8 : Int) (w : World), (part e #[.int k x0, .int k x1, .int k x2, .int k x3, .int k x4, .int k x5, .int k x6, .int k x7, .int k x8] 6).run P w = .ok (.int k x6) w := fun _ _ _ _ _ _ _ _ _ w => part_int ha _ 6 _ rfl w
  have p7 : ∀ (x0 x1 x2 x3 x4 x5 x6 x7 x8 : Int) (w : World), (part e #[.int k x0, .int k x1, .int k x2, .int k x3, .int k x4, .int k x5, .int k x6, .int k x7, .int k x8] 7).run P w = .ok (.int k x7) w := fun _ _ _ _ _ _ _ _ _ w => part_int ha _ 7 _ rfl w
  have p8 : ∀ (x0 x1 x2 x3 x4 x5 x6 x7 x8 : Int) (w : World), (part e #[.int k x0, .int k x1, .int k x2, .int k x3, .int k x4, .int k x5, .int k x6, .int k x7, .int k x8] 8).run P w = .ok (.int k x8) w := fun _ _ _ _ _ _ _ _ _ w => part_int ha _ 8 _ rfl w
  have hi := fun (u v : Int) (w : World) => run_equalIn_int w d e k k u v he
  unfold Op.equalIn
  by_cases h0 : a0 = b0
  · by_cases h1 : a1 = b1
    · by_cases h2 : a2 = b2
      · by_cases h3 : a3 = b3
        · by_cases h4 : a4 = b4
          · by_cases h5 : a5 = b5
            · by_cases h6 : a6 = b6
              · by_cases h7 : a7 = b7
                · by_cases h8 : a8 = b8
                  · simp [run_underlying ht, hs, List.range', p0, p1, p2, p3, p4, p5, p6, p7, p8, hi, h0, h1, h2, h3, h4, h5, h6, h7, h8]
                  · simp [run_underlying ht, hs, List.range', p0, p1, p2, p3, p4, p5, p6, p7, p8, hi, h0, h1, h2, h3, h4, h5, h6, h7, h8]
                · simp [run_underlying ht, hs, List.range', p0, p1, p2, p3, p4, p5, p6, p7, hi, h0, h1, h2, h3, h4, h5, h6, h7]
              · simp [run_underlying ht, hs, List.range', p0, p1, p2, p3, p4, p5, p6, hi, h0, h1, h2, h3, h4, h5, h6]
            · simp [run_underlying ht, hs, List.range', p0, p1, p2, p3, p4, p5, hi, h0, h1, h2, h3, h4, h5]
          · simp [run_underlying ht, hs, List.range', p0, p1, p2, p3, p4, hi, h0, h1, h2, h3, h4]
        · simp [run_underlying ht, hs, List.range', p0, p1, p2, p3, hi, h0, h1, h2, h3]
      · simp [run_underlying ht, hs, List.range', p0, p1, p2, hi, h0, h1, h2]
    · simp [run_underlying ht, hs, List.range', p0, p1, hi, h0, h1]
  · simp [run_underlying ht, hs, List.range', p0, hi, h0]
end

theorem eq9 (c d : Cf) (w : World) : (binOp .eql 55 (.agg ((nums9 c).map (Value.int .i64)).toArray) (.agg ((nums9 d).map (Value.int .i64)).toArray)).run Tryz.prog w = .ok (.bool (decide (nums9 c = nums9 d))) w := by
  have h := run_eq_array9 (P := Tryz.prog) 9998 55 3 .i64 Tryz.underlying55 Tryz.underlying3 Tryz.isAgg3 Tryz.sizeOf3 c.sh c.wo c.ba c.mi c.st c.bu c.ch c.wi c.ca d.sh d.wo d.ba d.mi d.st d.bu d.ch d.wi d.ca w
  have e : ((c.sh == d.sh) && ((c.wo == d.wo) && ((c.ba == d.ba) && ((c.mi == d.mi) && ((c.st == d.st) && ((c.bu == d.bu) && ((c.ch == d.ch) && ((c.wi == d.wi) && (c.ca == d.ca))))))))) = decide (nums9 c = nums9 d) := by
    rw [Bool.eq_iff_iff]
    simp [nums9]
  rw [e] at h
  rw [run_eql_struct]
  show ((Op.equalIn 10000 55 (.agg #[.int .i64 c.sh, .int .i64 c.wo, .int .i64 c.ba, .int .i64 c.mi, .int .i64 c.st, .int .i64 c.bu, .int .i64 c.ch, .int .i64 c.wi, .int .i64 c.ca]) (.agg #[.int .i64 d.sh, .int .i64 d.wo, .int .i64 d.ba, .int .i64 d.mi, .int .i64 d.st, .int .i64 d.bu, .int .i64 d.ch, .int .i64 d.wi, .int .i64 d.ca])).run Tryz.prog w).andThen _ = _
  rw [h]
  rfl
theorem guard9 (op : BinOp) (x y : Operand) (xs ys : Array Value) (w : World) : (eqGuard op 55 x y (.agg xs) (.agg ys)).run Tryz.prog w = .ok () w := run_eqGuard_agg w op _ x y xs ys (by kernel_rfl)

set_option maxRecDepth 100000 in
set_option maxHeartbeats 1000000 in
theorem nums_any (A : Option Addr) (n cap : Nat) (c : Cf) (w : World) : Calls Tryz.prog 26 #[.agg (cfCells A n cap c)] w fun e w' => e = .returned (.agg ((nums9 c).map (Value.int .i64)).toArray) ∧ Below w.heap.size w w' := by
  unfold cfCells nums9
  go_enter Tryz.func26, Tryz.ntmps26
  go_wp2
  refine bodyPost_ret (v := .agg #[.int .i64 c.sh, .int .i64 c.wo, .int .i64 c.ba, .int .i64 c.mi, .int .i64 c.st, .int .i64 c.bu, .int .i64 c.ch, .int .i64 c.wi, .int .i64 c.ca]) ?_ rfl ?_
  rotate_left
  · exact ⟨rfl, ((Below.refl w.heap.size w).alloc (Nat.le_refl _) _).alloc (by simp) _⟩
  simp [results, Tryz.results26, go_sem]

end Go.Proofs.YtiokdfkddcokoaaGreatDoor
