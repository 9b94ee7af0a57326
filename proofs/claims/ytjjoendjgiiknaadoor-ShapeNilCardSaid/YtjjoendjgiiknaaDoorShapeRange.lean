/- Walks: Weights and Biases of a shape and of the reference; part.Covers. Conditions: none. -/
import Derived.Test.YtjjoendjgiiknaaDoorShapeBits
import Derived.Laws.StructEq
namespace Go.Proofs.YtjjoendjgiiknaaDoor
open Go.RowKit

def wgt (zs : List Int) (k : Int) : Int × Int := if 0 ≤ k ∧ k < (zs.length : Int) - 1 then (lo zs k.toNat, mid zs k.toNat) else (0, 0)
def bia (zs : List Int) (k : Int) : Int × Int := if 0 ≤ k ∧ k < (zs.length : Int) - 1 then (mid zs k.toNat, lo zs (k.toNat + 1)) else (0, 0)

theorem size_oneR (w : World) (o : Obj) : (w.alloc o).heap.size = w.heap.size + 1 := by simp
theorem blk_keep {W w' : World} {g : Nat} {o : Obj} (h : W.heap[g]? = some o) (hb : Below W.heap.size W w') : w'.heap[g]? = some o := blk_below h hb (blk_lt h)

set_option maxRecDepth 100000 in
set_option maxHeartbeats 1000000 in
theorem weights_any (g : Nat) (zs : List Int) (k : Int) (w : World) (h : IsShape w w.heap.size g zs) (h1 : 1 ≤ zs.length ∧ zs.length ≤ 100) :
    Calls Tryd.prog 16 #[.pointer (some ⟨g, 0, none⟩), .int .i64 k] w fun e w' => e = .returned (.agg #[.int .i64 (wgt zs k).1, .int .i64 (wgt zs k).2]) ∧ Below w.heap.size w w' := by
  obtain ⟨As, Aw, Ab, cs, cw, cb, ⟨c0, c1, c2, c3⟩, hS, hW, hB⟩ := h.parts
  have hb0 := (Below.refl w.heap.size w).alloc (Nat.le_refl _) (.cells #[.int .i64 0, .int .i64 0] 35)
  have HL := Lib.hid (links_any g zs w.heap.size (w.alloc (.cells #[.int .i64 0, .int .i64 0] 35)) (h.below hb0))
  have HF := Lib.hid (heap_alloc_new w (.cells #[.int .i64 0, .int .i64 0] 35))
  have HB0 := Lib.hid hb0
  have hgl := World.block_lt_of_cell? w _ c1
  dsimp only at hgl
  have hwg : wgt zs k = if 0 ≤ k ∧ k < (zs.length : Int) - 1 then (lo zs k.toNat, mid zs k.toNat) else (0, 0) := rfl
  by_cases hk : 0 ≤ k ∧ k < (zs.length : Int) - 1
  · rw [if_pos hk] at hwg
    obtain ⟨n, rfl⟩ := Int.eq_ofNat_of_zero_le hk.1
    rw [Int.toNat_natCast] at hwg
    have hn : n < zs.length - 1 := by omega
    obtain ⟨bw, ow, rfl, hbw, hcw⟩ := flat_cells hW (by rw [wr_len]; omega)
    obtain ⟨f1, f2⟩ := hcw n _ (wr_at zs hn)
    dsimp only at f1 f2
    rw [hwg]
    dsimp only
    generalize lo zs n = L at *
    generalize mid zs n = M at *
    have hn0 : ¬ (n : Int) < 0 := by omega
    have hn1 : (n : Int) < ((zs.length - 1 : Nat) : Int) := by omega
    have hn2 : ((zs.length - 1 : Nat) : Int) ≤ 100 := by omega
    obtain ⟨n1, hn3⟩ : ∃ n, zs.length - 1 = n := ⟨_, rfl⟩
    rw [hn3] at hn1 hn2 HL c1
    clear h hS hW hB hcw hk hb0 hwg hn hn3 c0 c2 c3 h1
    go_enter Tryd.func16, Tryd.ntmps16
    go_wp2_with fail
    (with_reducible refine HL.out.mono ?_)
    rintro e w1 ⟨rfl, rfl⟩
    go_wp2_with fail
    refine bodyPost_ret (v := .agg #[.int .i64 L, .int .i64 M]) ?_ rfl ⟨rfl, ?_⟩
    · simp [results, Tryd.results16, go_sem]
    · exact (Below.refl w.heap.size w).alloc (Nat.le_refl _) _
  · rw [if_neg hk] at hwg
    rw [hwg]
    dsimp only
    clear h hS hW hB hb0 hwg c0 c2 c3 c1
    by_cases hk0 : k < 0
    · clear hk h1
      go_enter Tryd.func16, Tryd.ntmps16
      go_wp2_with fail
      refine bodyPost_ret (v := .agg #[.int .i64 0, .int .i64 0]) ?_ rfl ⟨rfl, HB0.out⟩
      simp [results, Tryd.results16, go_sem]
    · have hk1 : ((zs.length - 1 : Nat) : Int) ≤ k := by omega
      obtain ⟨n1, hn3⟩ : ∃ n, zs.length - 1 = n := ⟨_, rfl⟩
      rw [hn3] at hk1 HL
      obtain ⟨n, rfl⟩ := Int.eq_ofNat_of_zero_le (a := k) (by omega)
      have hk2 : n1 ≤ n := by omega
      clear hk h1 hn3
      go_enter Tryd.func16, Tryd.ntmps16
      go_wp2_with fail
      (with_reducible refine HL.out.mono ?_)
      rintro e w1 ⟨rfl, rfl⟩
      go_wp2_with fail
      refine bodyPost_ret (v := .agg #[.int .i64 0, .int .i64 0]) ?_ rfl ⟨rfl, HB0.out⟩
      simp [results, Tryd.results16, go_sem]

set_option maxRecDepth 100000 in
set_option maxHeartbeats 1000000 in
theorem biases_any (g : Nat) (zs : List Int) (k : Int) (w : World) (h : IsShape w w.heap.size g zs) (h1 : 1 ≤ zs.length ∧ zs.length ≤ 100) :
    Calls Tryd.prog 18 #[.pointer (some ⟨g, 0, none⟩), .int .i64 k] w fun e w' => e = .returned (.agg #[.int .i64 (bia zs k).1, .int .i64 (bia zs k).2]) ∧ Below w.heap.size w w' := by
  obtain ⟨As, Aw, Ab, cs, cw, cb, ⟨c0, c1, c2, c3⟩, hS, hW, hB⟩ := h.parts
  have hb0 := (Below.refl w.heap.size w).alloc (Nat.le_refl _) (.cells #[.int .i64 0, .int .i64 0] 35)
  have HL := Lib.hid (links_any g zs w.heap.size (w.alloc (.cells #[.int .i64 0, .int .i64 0] 35)) (h.below hb0))
  have HF := Lib.hid (heap_alloc_new w (.cells #[.int .i64 0, .int .i64 0] 35))
  have HB0 := Lib.hid hb0
  have hgl := World.block_lt_of_cell? w _ c2
  dsimp only at hgl
  have hwg : bia zs k = if 0 ≤ k ∧ k < (zs.length : Int) - 1 then (mid zs k.toNat, lo zs (k.toNat + 1)) else (0, 0) := rfl
  by_cases hk : 0 ≤ k ∧ k < (zs.length : Int) - 1
  · rw [if_pos hk] at hwg
    obtain ⟨n, rfl⟩ := Int.eq_ofNat_of_zero_le hk.1
    rw [Int.toNat_natCast] at hwg
    have hn : n < zs.length - 1 := by omega
    obtain ⟨bw, ow, rfl, hbw, hcw⟩ := flat_cells hB (by rw [br_len]; omega)
    obtain ⟨f1, f2⟩ := hcw n _ (br_at zs hn)
    dsimp only at f1 f2
    rw [hwg]
    dsimp only
    generalize lo zs (n + 1) = M at *
    generalize mid zs n = L at *
    have hn0 : ¬ (n : Int) < 0 := by omega
    have hn1 : (n : Int) < ((zs.length - 1 : Nat) : Int) := by omega
    have hn2 : ((zs.length - 1 : Nat) : Int) ≤ 100 := by omega
    obtain ⟨n1, hn3⟩ : ∃ n, zs.length - 1 = n := ⟨_, rfl⟩
    rw [hn3] at hn1 hn2 HL c2
    clear h hS hW hB hcw hk hb0 hwg hn hn3 c0 c1 c3 h1
    go_enter Tryd.func18, Tryd.ntmps18
    go_wp2_with fail
    (with_reducible refine HL.out.mono ?_)
    rintro e w1 ⟨rfl, rfl⟩
    go_wp2_with fail
    refine bodyPost_ret (v := .agg #[.int .i64 L, .int .i64 M]) ?_ rfl ⟨rfl, ?_⟩
    · simp [results, Tryd.results18, go_sem]
    · exact (Below.refl w.heap.size w).alloc (Nat.le_refl _) _
  · rw [if_neg hk] at hwg
    rw [hwg]
    dsimp only
    clear h hS hW hB hb0 hwg c0 c2 c3 c1
    by_cases hk0 : k < 0
    · clear hk h1
      go_enter Tryd.func18, Tryd.ntmps18
      go_wp2_with fail
      refine bodyPost_ret (v := .agg #[.int .i64 0, .int .i64 0]) ?_ rfl ⟨rfl, HB0.out⟩
      simp [results, Tryd.results18, go_sem]
    · have hk1 : ((zs.length - 1 : Nat) : Int) ≤ k := by omega
      obtain ⟨n1, hn3⟩ : ∃ n, zs.length - 1 = n := ⟨_, rfl⟩
      rw [hn3] at hk1 HL
      obtain ⟨n, rfl⟩ := Int.eq_ofNat_of_zero_le (a := k) (by omega)
      have hk2 : n1 ≤ n := by omega
      clear hk h1 hn3
      go_enter Tryd.func18, Tryd.ntmps18
      go_wp2_with fail
      (with_reducible refine HL.out.mono ?_)
      rintro e w1 ⟨rfl, rfl⟩
      go_wp2_with fail
      refine bodyPost_ret (v := .agg #[.int .i64 0, .int .i64 0]) ?_ rfl ⟨rfl, HB0.out⟩
      simp [results, Tryd.results18, go_sem]

section
variable {P : Program}
theorem part_int2 {e : TypeId} (ha : ∀ w, (isAgg e).run P w = .ok false w) (cs : Array Value) (i : Nat) (v : Value) (h : cs[i]? = some v) (w : World) : (part e cs i).run P w = .ok v w := by
  simp [part, ha, h]
end

theorem eqR (a b x y : Int) (w : World) : (Op.equalIn 10000 35 (.agg #[.int .i64 a, .int .i64 b]) (.agg #[.int .i64 x, .int .i64 y])).run Tryd.prog w = .ok ((a == x) && (b == y)) w := by
  have hi := fun (u v : Int) (w : World) => run_equalIn_int (P := Tryd.prog) w 9998 3 .i64 .i64 u v Tryd.underlying3
  rw [run_equalIn_struct (P := Tryd.prog) w 9999 35 _ _ (by kernel_rfl) (by kernel_rfl)]
  have p0 : ∀ (u v : Int) (w : World), (part 3 #[.int .i64 u, .int .i64 v] 0).run Tryd.prog w = .ok (.int .i64 u) w := fun _ _ w => part_int2 Tryd.isAgg3 _ 0 _ rfl w
  have p1 : ∀ (u v : Int) (w : World), (part 3 #[.int .i64 u, .int .i64 v] 1).run Tryd.prog w = .ok (.int .i64 v) w := fun _ _ w => part_int2 Tryd.isAgg3 _ 1 _ rfl w
  simp only [Program.fieldsOf, Tryd.underlying35]
  by_cases h0 : a = x
  · by_cases h1 : b = y
    · simp [Op.eqFields, p0, p1, hi, h0, h1]
    · simp [Op.eqFields, p0, p1, hi, h0, h1]
  · simp [Op.eqFields, p0, hi, h0]
theorem neqR (a b x y : Int) (w : World) : (binOp .neq 35 (.agg #[.int .i64 a, .int .i64 b]) (.agg #[.int .i64 x, .int .i64 y])).run Tryd.prog w = .ok (.bool (!((a == x) && (b == y)))) w := by
  rw [run_neq_struct, eqR]; rfl
theorem guardR (op : BinOp) (x y : Operand) (xs ys : Array Value) (w : World) : (eqGuard op 35 x y (.agg xs) (.agg ys)).run Tryd.prog w = .ok () w := run_eqGuard_agg w op _ x y xs ys (by kernel_rfl)

theorem eqS (a b x y : Int) (w : World) : (Op.equalIn 10000 34 (.agg #[.int .i64 a, .int .i64 b]) (.agg #[.int .i64 x, .int .i64 y])).run Tryd.prog w = .ok ((a == x) && (b == y)) w := by
  have hi := fun (u v : Int) (w : World) => run_equalIn_int (P := Tryd.prog) w 9998 3 .i64 .i64 u v Tryd.underlying3
  rw [run_equalIn_struct (P := Tryd.prog) w 9999 34 _ _ (by kernel_rfl) (by kernel_rfl)]
  have p0 : ∀ (u v : Int) (w : World), (part 3 #[.int .i64 u, .int .i64 v] 0).run Tryd.prog w = .ok (.int .i64 u) w := fun _ _ w => part_int2 Tryd.isAgg3 _ 0 _ rfl w
  have p1 : ∀ (u v : Int) (w : World), (part 3 #[.int .i64 u, .int .i64 v] 1).run Tryd.prog w = .ok (.int .i64 v) w := fun _ _ w => part_int2 Tryd.isAgg3 _ 1 _ rfl w
  simp only [Program.fieldsOf, Tryd.underlying34]
  by_cases h0 : a = x
  · by_cases h1 : b = y
    · simp [Op.eqFields, p0, p1, hi, h0, h1]
    · simp [Op.eqFields, p0, p1, hi, h0, h1]
  · simp [Op.eqFields, p0, hi, h0]
theorem neqS (a b x y : Int) (w : World) : (binOp .neq 34 (.agg #[.int .i64 a, .int .i64 b]) (.agg #[.int .i64 x, .int .i64 y])).run Tryd.prog w = .ok (.bool (!((a == x) && (b == y)))) w := by
  rw [run_neq_struct, eqS]; rfl
theorem guardS (op : BinOp) (x y : Operand) (xs ys : Array Value) (w : World) : (eqGuard op 34 x y (.agg xs) (.agg ys)).run Tryd.prog w = .ok () w := run_eqGuard_agg w op _ x y xs ys (by kernel_rfl)

/-- Ranges that follow each other from a to n. -/
def Chain : Int → List (Int × Int) → Int → Prop
  | a, [], n => a = n
  | a, r :: rs, n => r.1 = a ∧ a ≤ r.2 ∧ Chain r.2 rs n
/-- Where the first k ranges end. -/
def endOf (rs : List (Int × Int)) (k : Nat) : Int := match k with
  | 0 => 0
  | k + 1 => (rs.getD k (0, 0)).2
theorem chain_step : ∀ {a n : Int} {rs : List (Int × Int)} {k : Nat} {r : Int × Int}, Chain a rs n → rs[k]? = some r → r.1 = (if k = 0 then a else (rs.getD (k - 1) (0, 0)).2) ∧ r.1 ≤ r.2
  | a, n, [], k, r, _, h => by simp at h
  | a, n, x :: rs, 0, r, hc, h => by
    simp at h; subst h
    exact ⟨by simpa using hc.1, by rw [hc.1]; exact hc.2.1⟩
  | a, n, x :: rs, k + 1, r, hc, h => by
    have ih := chain_step (k := k) hc.2.2 (by simpa using h)
    refine ⟨?_, ih.2⟩
    rw [ih.1]
    cases k with
    | zero => simp
    | succ k => simp
theorem chain_end : ∀ {a n : Int} {rs : List (Int × Int)}, Chain a rs n → (if rs.length = 0 then a else (rs.getD (rs.length - 1) (0, 0)).2) = n
  | a, n, [], h => by simpa [Chain] using h
  | a, n, x :: rs, h => by
    have ih := chain_end h.2.2
    cases rs with
    | nil => simpa [Chain] using h.2.2
    | cons y r => simpa using ih

set_option maxRecDepth 100000 in
set_option maxHeartbeats 1000000 in
theorem covers_yes (n : Int) (A : Option Addr) (cap : Nat) (rs : List (Int × Int)) (w : World) (hr : Rd w w.heap.size A (flatR rs)) (hl : rs.length ≤ 100) (hc : Chain 0 rs n) :
    Calls Tryd.prog 20 #[.int .i64 n, .slice A rs.length cap] w fun e w' => e = .returned (.bool true) ∧ Below w.heap.size w w' := by
  have HR := Lib.hid hr
  have hzl : (rs.length : Int) ≤ 100 := by omega
  have HC := Lib.hid hc
  have gR := guardR
  have nR := neqR
  clear hr hl hc
  go_enter Tryd.func20, Tryd.ntmps20
  go_wp2_with fail
  go_loopw [5, 10] (fun a x wr' => ∃ k : Nat, k ≤ rs.length ∧ x = .int .i64 k ∧ a = .int .i64 (endOf rs k) ∧ Hid (Below w.heap.size w wr')) (fun _ x _ => rs.length - (intOf x).toNat)
  case atStart => exact ⟨0, Nat.zero_le _, rfl, rfl, Lib.hid (Below.refl _ _)⟩
  case round =>
    obtain ⟨k, hk, rfl, rfl, HBk⟩ := hrel
    by_cases hlt : k < rs.length
    · obtain ⟨r, hrk⟩ := get_some rs k hlt
      obtain ⟨b, off, rfl, hb, hcs⟩ := flat_cells HR.out (by omega)
      obtain ⟨f1, f2⟩ := hcs k r hrk
      have c1 := (HBk.out.cell (p := ⟨b, off + k * 2, none⟩) hb).trans f1
      have c2 := (HBk.out.cell (p := ⟨b, off + k * 2 + 1, none⟩) hb).trans f2
      have hst := chain_step HC.out hrk
      have HE := Lib.hid (show r.2 = endOf rs (k + 1) by simp [endOf, List.getD, hrk])
      have he : r.1 = endOf rs k := by
        rw [hst.1]
        cases k with
        | zero => simp [endOf]
        | succ k => simp [endOf]
      have hle := hst.2
      have HB1 := Lib.hid (HBk.out.alloc HBk.out.size (.cells #[.int .i64 r.1, .int .i64 r.2] 35))
      obtain ⟨x, y⟩ := r
      dsimp only at c1 c2 he hle HE HB1
      rw [← he]
      have hmax : max x y = y := by omega
      clear hcs f1 f2 hrk hst he
      go_wp2_with fail
      go_roundw
      case rel => exact ⟨k + 1, by omega, by go_num, by rw [HE.out], HB1⟩
      case measure => simp [intOf]; omega
    · have hge : rs.length ≤ k := by omega
      have hek : endOf rs k = n := by
        have := chain_end HC.out
        obtain rfl : k = rs.length := by omega
        rw [← this]
        cases hrl : rs.length with
        | zero => simp [endOf]
        | succ m => simp [endOf]
      rw [hek]
      clear hek
      go_wp2_with fail
      go_ret
      exact ⟨by simp, HBk.out⟩

end Go.Proofs.YtjjoendjgiiknaaDoor
