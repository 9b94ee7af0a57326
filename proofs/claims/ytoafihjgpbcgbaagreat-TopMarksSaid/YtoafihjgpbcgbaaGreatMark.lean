/- Walks: the marks of the program: Low, Unit, Turn, Join, Of. Conditions: none. -/
import Derived.Test.YtoafihjgpbcgbaaGreatRegion
import Derived.Test.YtoafihjgpbcgbaaGreatMarkPlain
import Derived.Laws.EntriesVeiled
namespace Go.Proofs.YtoafihjgpbcgbaaGreat
open Go.RowKit

set_option maxHeartbeats 400000 in
theorem low_any (x : Int) (w : World) : Calls Tryz.prog 19 #[.int .i64 x] w fun e w' => e = .returned (.int .i64 (low x)) ∧ w = w' := by
  have h1 : IntKind.i64.wrap (IntKind.i16.wrap x) = low x := by
    rw [IntKind.wrap_i64]
    simp [IntKind.wrap, IntKind.bits, IntKind.signed, low]
    omega
  go_enter Tryz.func19, Tryz.ntmps19
  go_wp2
  go_ret
  exact ⟨rfl, rfl⟩

/-- A complex number with these whole parts. -/
def GivesC (w : World) (x y : Int) (e : Ending) (w' : World) : Prop := ∃ a b : Nat, e = .returned (.complex .f64 a b) ∧ IsF a x ∧ IsF b y ∧ w = w'

theorem unit_index : ∀ w : World, ((Instr.index 121 (.agg #[.complex .f64 4607182418800017408 0, .complex .f64 0 4607182418800017408, .complex .f64 13830554455654793216 0, .complex .f64 0 13830554455654793216]) (.int .i64 0)).run Tryz.prog w = .ok (.complex .f64 4607182418800017408 0) w) ∧
    ((Instr.index 121 (.agg #[.complex .f64 4607182418800017408 0, .complex .f64 0 4607182418800017408, .complex .f64 13830554455654793216 0, .complex .f64 0 13830554455654793216]) (.int .i64 1)).run Tryz.prog w = .ok (.complex .f64 0 4607182418800017408) w) ∧
    ((Instr.index 121 (.agg #[.complex .f64 4607182418800017408 0, .complex .f64 0 4607182418800017408, .complex .f64 13830554455654793216 0, .complex .f64 0 13830554455654793216]) (.int .i64 2)).run Tryz.prog w = .ok (.complex .f64 13830554455654793216 0) w) ∧
    ((Instr.index 121 (.agg #[.complex .f64 4607182418800017408 0, .complex .f64 0 4607182418800017408, .complex .f64 13830554455654793216 0, .complex .f64 0 13830554455654793216]) (.int .i64 3)).run Tryz.prog w = .ok (.complex .f64 0 13830554455654793216) w) :=
  fun _ => ⟨by kernel_rfl, by kernel_rfl, by kernel_rfl, by kernel_rfl⟩

set_option maxHeartbeats 400000 in
theorem unit_any (n : Int) (w : World) : Calls Tryz.prog 25 #[.int .i64 n] w (GivesC w (tRe n 1 0) (tIm n 1 0)) := by
  have i0 := fun w => (unit_index w).1
  have i1 := fun w => (unit_index w).2.1
  have i2 := fun w => (unit_index w).2.2.1
  have i3 := fun w => (unit_index w).2.2.2
  have h := and_three n
  have hm : n % 4 = 0 ∨ n % 4 = 1 ∨ n % 4 = 2 ∨ n % 4 = 3 := by omega
  rcases hm with e | e | e | e
  · rw [e] at h
    have hr : Hid (tRe n 1 0 = 1 ∧ tIm n 1 0 = 0) := Lib.hid (by simp [tRe, tIm, e])
    clear e
    go_enter Tryz.func25, Tryz.ntmps25
    go_wp2
    go_ret
    exact ⟨_, _, rfl, by rw [hr.out.1]; exact IsF.one, by rw [hr.out.2]; exact IsF.nought, rfl⟩
  · rw [e] at h
    have hr : Hid (tRe n 1 0 = 0 ∧ tIm n 1 0 = 1) := Lib.hid (by simp [tRe, tIm, e])
    clear e
    go_enter Tryz.func25, Tryz.ntmps25
    go_wp2
    go_ret
    exact ⟨_, _, rfl, by rw [hr.out.1]; exact IsF.nought, by rw [hr.out.2]; exact IsF.one, rfl⟩
  · rw [e] at h
    have hr : Hid (tRe n 1 0 = -1 ∧ tIm n 1 0 = 0) := Lib.hid (by simp [tRe, tIm, e])
    clear e
    go_enter Tryz.func25, Tryz.ntmps25
    go_wp2
    go_ret
    exact ⟨_, _, rfl, by rw [hr.out.1]; exact IsF.minus, by rw [hr.out.2]; exact IsF.nought, rfl⟩
  · rw [e] at h
    have hr : Hid (tRe n 1 0 = 0 ∧ tIm n 1 0 = -1) := Lib.hid (by simp [tRe, tIm, e])
    clear e
    go_enter Tryz.func25, Tryz.ntmps25
    go_wp2
    go_ret
    exact ⟨_, _, rfl, by rw [hr.out.1]; exact IsF.nought, by rw [hr.out.2]; exact IsF.minus, rfl⟩

theorem unit_abs (n : Int) : (tRe n 1 0).natAbs ≤ 1 ∧ (tIm n 1 0).natAbs ≤ 1 := by
  unfold tRe tIm
  split
  · omega
  split
  · omega
  split <;> omega

set_option maxHeartbeats 400000 in
theorem turn_any (a b : Nat) (x y n : Int) (w : World) (ha : IsF a x) (hb : IsF b y) (hx : x.natAbs < 2 ^ 52) (hy : y.natAbs < 2 ^ 52) :
    Calls Tryz.prog 17 #[.complex .f64 a b, .int .i64 n] w (GivesC w (tRe n x y) (tIm n x y)) := by
  have HA := Lib.hid ha
  have HB := Lib.hid hb
  have HX := Lib.hid hx
  have HY := Lib.hid hy
  clear ha hb hx hy
  go_enter Tryz.func17, Tryz.ntmps17
  go_wp2_with fail
  refine (unit_any n _).mono ?_
  rintro e w' ⟨c, d, rfl, hc, hd, rfl⟩
  obtain ⟨re, im, hcm, h1, h2⟩ := cmul_int HA.out HB.out hc hd HX.out HY.out (unit_abs n).1 (unit_abs n).2
  have hrun := fun W : World => run_complex_mul (P := Tryz.prog) W 25 a b c d re im hcm
  have H1 := Lib.hid h1
  have H2 := Lib.hid h2
  clear hcm h1 h2 hc hd
  go_wp2
  go_ret
  have hm := turn_mul n x y
  exact ⟨re, im, rfl, hm.1 ▸ H1.out, hm.2 ▸ H2.out, rfl⟩

theorem run_store_cx (P : Program) (w : World) (a : Addr) (m : Mode) (k : FloatKind) (x y : Nat) : (store a (.complex k x y) m).run P w = stored P w a (.complex k x y) m := run_store P w a _ m rfl
attribute [local go_sem] run_store_cx

/-- The closure of Of: one number more. -/
def Added (w : World) (zb : Nat) (x y : Int) (e : Ending) (w' : World) : Prop :=
  (∃ v, e = .returned v) ∧ ∃ a b q : Nat, IsF a x ∧ IsF b y ∧ w' = (w.drewN q).setCell ⟨zb, 0, none⟩ (.complex .f64 a b)

set_option linter.unusedSimpArgs false in
set_option maxHeartbeats 400000 in
theorem add_any (x k : Int) (zb a b : Nat) (u v : Int) (w : World) (hz : w.cell? ⟨zb, 0, none⟩ = some (.complex .f64 a b)) (hfz : w.frozen? ⟨zb, 0, none⟩ = false) (ha : IsF a u) (hb : IsF b v) (hu : u.natAbs < 2 ^ 50) (hv : v.natAbs < 2 ^ 50) :
    Calls Tryz.prog 18 #[.int .i64 x, .int .i64 k, .pointer (some ⟨zb, 0, none⟩)] w (Added w zb (u + tRe k (low x) 0) (v + tIm k (low x) 0)) := by
  have lz := World.block_lt_of_cell? w _ hz
  have lb := low_bd x
  have tb := turn_bd (n := k) (x := low x) (y := 0) (m := 32768) (by omega) (by omega)
  have HA := Lib.hid ha
  have HB := Lib.hid hb
  have HU := Lib.hid (And.intro hu hv)
  have HT := Lib.hid tb
  have HL := Lib.hid (IsF.ofInt (low x) (by omega))
  have HLB := Lib.hid lb
  clear ha hb hu hv tb lb
  go_enter Tryz.func18, Tryz.ntmps18
  go_wp2_with fail
  refine wp_region_but 8 (fun w' => w'.cell? ⟨zb, 0, none⟩ = some (.complex .f64 a b)) (by kernel_rfl) hz (fun hHeld => ?_)
  refine AnyBut.take 0 (d := (some 5)) (v := ?_) rfl rfl (by kernel_rfl) (by kernel_rfl) (by kernel_rfl) (by kernel_rfl) (fun _ _ _ h => h) (by rfl) (by assumption) ?_ ?_
  rotate_left
  · (intro wx hSw; (try dsimp only at hSw); go_simp); all_goals with_reducible rfl
  try simp only [Act.put, List.setIfInBounds_toArray, List.set_cons_zero, List.set_cons_succ]
  refine AnyBut.take 1 (d := (some 6)) (v := ?_) rfl rfl (by kernel_rfl) (by kernel_rfl) (by kernel_rfl) (by kernel_rfl) (fun _ _ _ h => h) (by rfl) (by assumption) ?_ ?_
  rotate_left
  · (intro wx hSw; (try dsimp only at hSw); go_simp); all_goals with_reducible rfl
  try simp only [Act.put, List.setIfInBounds_toArray, List.set_cons_zero, List.set_cons_succ]
  refine AnyBut.take 5 (d := (some 10)) (v := ?_) rfl rfl (by kernel_rfl) (by kernel_rfl) (by kernel_rfl) (by kernel_rfl) (fun _ _ _ h => h) (by rfl) (by assumption) ?_ ?_
  rotate_left
  · (intro wx hSw; (try dsimp only at hSw); go_simp); all_goals with_reducible rfl
  try simp only [Act.put, List.setIfInBounds_toArray, List.set_cons_zero, List.set_cons_succ]
  refine AnyBut.step 2 (by kernel_rfl) rfl (by decide) (by rfl) (fun K hK => ?_)
  go_simp
  refine (low_any _ _).mono ?_
  rintro e w1 ⟨rfl, rfl⟩
  refine hK.out _ _ hHeld ?_
  clear hK K
  try simp only [Act.put, List.setIfInBounds_toArray, List.set_cons_zero, List.set_cons_succ]
  refine AnyBut.take 3 (d := (some 8)) (v := ?_) rfl rfl (by kernel_rfl) (by kernel_rfl) (by kernel_rfl) (by kernel_rfl) (fun _ _ _ h => h) (by rfl) (by assumption) ?_ ?_
  rotate_left
  · (intro wx hSw; (try dsimp only at hSw); go_simp); all_goals with_reducible rfl
  try simp only [Act.put, List.setIfInBounds_toArray, List.set_cons_zero, List.set_cons_succ]
  refine AnyBut.take 4 (d := (some 9)) (v := ?_) rfl rfl (by kernel_rfl) (by kernel_rfl) (by kernel_rfl) (by kernel_rfl) (fun _ _ _ h => h) (by rfl) (by assumption) ?_ ?_
  rotate_left
  · (intro wx hSw; (try dsimp only at hSw); go_simp); all_goals with_reducible rfl
  try simp only [Act.put, List.setIfInBounds_toArray, List.set_cons_zero, List.set_cons_succ]
  refine AnyBut.step 6 (by kernel_rfl) rfl (by decide) (by rfl) (fun K hK => ?_)
  go_simp
  refine (turn_any _ _ (low x) 0 k _ HL.out IsF.nought (by have := HLB.out; omega) (by omega)).mono ?_
  rintro e w1 ⟨c, d, rfl, hc, hd, rfl⟩
  refine hK.out _ _ hHeld ?_
  obtain ⟨re, im, hcs, h1, h2⟩ := cadd_int HA.out HB.out hc hd (by have := HU.out; have := HT.out; omega) (by have := HU.out; have := HT.out; omega)
  have hrun := fun W : World => run_complex_sum (P := Tryz.prog) W .add (.inl rfl) 25 .f64 a b c d re im hcs
  have H1 := Lib.hid h1
  have H2 := Lib.hid h2
  clear hK K hcs h1 h2 hc hd
  try simp only [Act.put, List.setIfInBounds_toArray, List.set_cons_zero, List.set_cons_succ]
  refine AnyBut.take 7 (d := (some 12)) (v := ?_) rfl rfl (by kernel_rfl) (by kernel_rfl) (by kernel_rfl) (by kernel_rfl) (fun _ _ _ h => h) (by rfl) (by assumption) ?_ ?_
  rotate_left
  · (intro wx hSw; (try dsimp only at hSw); go_simp); all_goals with_reducible rfl
  try simp only [Act.put, List.setIfInBounds_toArray, List.set_cons_zero, List.set_cons_succ]
  refine AnyBut.last (by kernel_rfl) (by kernel_rfl) rfl (by rfl) (fun K hK => ?_)
  go_simp
  refine hK.out _ _ ?_
  clear hK K hHeld
  go_wp2
  go_end0
  exact ⟨⟨_, rfl⟩, re, im, 1, H1.out, H2.out, rfl⟩

set_option maxHeartbeats 400000 in
theorem markOf_any (A : Option Addr) (cap : Nat) (zs : List Int) (w : World) (hr : RdI w w.heap.size A zs) (hl : zs.length ≤ 1048576) :
    Calls Tryz.prog 8 #[.slice A zs.length cap] w fun e w' => (∃ a b : Nat, e = .returned (.complex .f64 a b) ∧ IsF a (ofRe 0 zs) ∧ IsF b (ofIm 0 zs)) ∧ Below w.heap.size w w' := by
  go_enter Tryz.func8, Tryz.ntmps8
  go_wp2
  go_loopw [10] (fun i wr => ∃ k : Nat, k ≤ zs.length ∧ i = .int .i64 k ∧ ∃ a b : Nat, wr.heap[w.heap.size]? = some (.cells #[.complex .f64 a b] 25 (0, 0)) ∧ IsF a (ofRe 0 (zs.take k)) ∧ IsF b (ofIm 0 (zs.take k)) ∧ Below w.heap.size w wr)
    (fun i _ => zs.length - (intOf i).toNat)
  case atStart => exact ⟨0, Nat.zero_le _, rfl, 0, 0, heap_alloc_new w _, IsF.nought, IsF.nought, (Below.refl _ _).alloc (Nat.le_refl _) _⟩
  case round =>
    obtain ⟨k, hk, rfl, a, b, hz, ha, hb, hbr⟩ := hrel
    have HZ := Lib.hid hz
    have HA := Lib.hid ha
    have HB := Lib.hid hb
    clear hz ha hb
    by_cases hlt : k < zs.length
    · obtain ⟨bb, off, rfl, hbl, hc⟩ := hr.at_ (by omega)
      obtain ⟨x, hx⟩ := get_some zs k hlt
      have c1 : wr.cell? ⟨bb, off + k, none⟩ = some (.int .i64 x) := (hbr.cell (p := ⟨bb, off + k, none⟩) hbl).trans (hc k x hx)
      have hs := Lib.hid (of_snoc zs 0 k x hx)
      have bd := of_bd (zs.take k) 0
      have bl : (zs.take k).length ≤ 1048576 := by have := List.length_take_le k zs; omega
      have C := Lib.hid (add_any x k w.heap.size a b _ _ wr (blk_cell HZ.out 0) (blk_frozen HZ.out 0) HA.out HB.out (by omega) (by omega))
      clear hc hx bd bl
      go_wp2_with (go_at_call 18; refine C.out.mono ?_; rintro e w1 ⟨⟨v, rfl⟩, a', b', q, ha', hb', rfl⟩)
      have hz' := blk_set (blk_drewN HZ.out q) 0 (.complex .f64 a' b')
      have HZ' := Lib.hid hz'
      have HA' := Lib.hid ha'
      have HB' := Lib.hid hb'
      clear hz' ha' hb'
      go_roundw
      case rel =>
        refine ⟨k + 1, by omega, by go_num, a', b', HZ'.out, ?_, ?_, (below_drewN hbr q).setCell (Nat.le_refl _) _⟩
        · rw [hs.out.1, Nat.zero_add]; exact HA'.out
        · rw [hs.out.2, Nat.zero_add]; exact HB'.out
      case measure => simp [intOf]; omega
    · have c1 : wr.cell? ⟨w.heap.size, 0, none⟩ = some (.complex .f64 a b) := blk_cell HZ.out 0
      have ht : Hid (zs.take k = zs) := Lib.hid (List.take_of_length_le (by omega))
      go_wp2
      go_ret
      exact ⟨⟨a, b, rfl, by have := HA.out; rw [ht.out] at this; exact this, by have := HB.out; rw [ht.out] at this; exact this⟩, hbr⟩

set_option maxHeartbeats 400000 in
theorem join_any (a b c d : Nat) (x y u v n : Int) (w : World) (ha : IsF a x) (hb : IsF b y) (hc : IsF c u) (hd : IsF d v) (hx : x.natAbs < 2 ^ 50) (hy : y.natAbs < 2 ^ 50) (hu : u.natAbs < 2 ^ 50) (hv : v.natAbs < 2 ^ 50) :
    Calls Tryz.prog 7 #[.complex .f64 a b, .int .i64 n, .complex .f64 c d] w (GivesC w (x + tRe n u v) (y + tIm n u v)) := by
  have tb := turn_bd (n := n) (x := u) (y := v) (m := 2 ^ 50) (by omega) (by omega)
  have C := Lib.hid (turn_any c d u v n w hc hd (by omega) (by omega))
  have HA := Lib.hid ha
  have HB := Lib.hid hb
  have HX := Lib.hid (And.intro hx (And.intro hy tb))
  clear ha hb hc hd hx hy hu hv tb
  go_enter Tryz.func7, Tryz.ntmps7
  go_wp2_with fail
  refine C.out.mono ?_
  rintro e w' ⟨c', d', rfl, hc', hd', rfl⟩
  obtain ⟨re, im, hcs, h1, h2⟩ := cadd_int HA.out HB.out hc' hd' (by have := HX.out; omega) (by have := HX.out; omega)
  have hrun := fun W : World => run_complex_sum (P := Tryz.prog) W .add (.inl rfl) 25 .f64 a b c' d' re im hcs
  have H1 := Lib.hid h1
  have H2 := Lib.hid h2
  clear hcs h1 h2 hc' hd'
  go_wp2
  go_ret
  exact ⟨re, im, rfl, H1.out, H2.out, rfl⟩

end Go.Proofs.YtoafihjgpbcgbaaGreat
