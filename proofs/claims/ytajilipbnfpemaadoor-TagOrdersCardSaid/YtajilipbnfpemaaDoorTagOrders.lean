/- Walks: TagOrders. Conditions: the table of powers of ten reads as listed. -/
import Derived.Test.YtajilipbnfpemaaDoorTagRefCompare
namespace Go.Proofs.YtajilipbnfpemaaDoor
open Go.RowKit

/-- The class of the worlds that keep what lay below. -/
def Keeps (w W : World) : Prop := Below w.heap.size w W
theorem wp_region_in {P : Program} {C : World → Prop} {id : Nat} {Q : Exit → Act → World → Prop} {a : Act} {w : World} {l : List Oper} (hm : P.follows .mixedOrders = true) (hB : Region.lexB .any l.toArray = true) (hC : C w.drew)
    (h : wpQuiet P l.toArray C (fun a' => ∀ w', C w' → Q .normal a' w') l a) : (Code.region id l.toArray true).wp P Q a w :=
  wp_region_quiet (C := C) hm hB hC (by simpa using h)

/-- Two boxes of tags, the first blocks of the call's own. -/
structure Boxes (w : World) (t u : Tg) (W : World) : Prop where
  below : Below w.heap.size w W
  boxA : W.heap[w.heap.size]? = some (.cells #[.int .i64 t.a, .int .i64 t.b, .int .i64 t.p, .int .i64 t.r, .int .i64 t.c] 23 (0, 0))
  boxB : W.heap[w.heap.size + 1]? = some (.cells #[.int .i64 u.a, .int .i64 u.b, .int .i64 u.p, .int .i64 u.r, .int .i64 u.c] 23 (0, 0))
theorem Boxes.next {w W W' : World} {t u : Tg} (h : Boxes w t u W) (hb : Below W.heap.size W W') : Boxes w t u W' := ⟨h.below.trans (hb.mono h.below.size), blk_keep h.boxA hb, blk_keep h.boxB hb⟩
theorem Boxes.alloc {w W : World} {t u : Tg} (h : Boxes w t u W) (o : Obj) : Boxes w t u (W.alloc o) := h.next ((Below.refl _ _).alloc (Nat.le_refl _) o)
theorem Boxes.drew {w W : World} {t u : Tg} (h : Boxes w t u W) : Boxes w t u W.drew := ⟨below_drew h.below, h.boxA, h.boxB⟩

set_option maxRecDepth 100000 in
set_option maxHeartbeats 4000000 in
theorem tagOrders_no (t u : Tg) (ph : Int) (w : World) (hp : Pow w.heap.size w) (h : ¬ tagOk t) (u0 u1 : Int) (ub : Bool) (hq : ∀ W, Calls Tryd.prog 14 #[tgV u] W fun e w' => e = .returned (.tuple #[.agg #[.int .u64 u0, .int .u64 u1], .bool ub]) ∧ Below W.heap.size W w') :
    Calls Tryd.prog 7 #[tgV t, tgV u, .int .i64 ph] w fun e w' => e = .returned (.bool true) ∧ Below w.heap.size w w' := by
  have HA := Lib.hid (fun W (hb : Below w.heap.size w W) => alive17_any w.heap.size W (hp.on hb) hb.size)
  have HC := Lib.hid (fun W => compare_any t u W)
  have hD : ∀ W, Calls Tryd.prog 29 #[tgV u, tgV t] W fun e w' => e = .returned (.int .i64 (-cmpT t u)) ∧ Below W.heap.size W w' := fun W => by
    have := compare_any u t W
    rw [cmpT_neg] at this
    exact this
  have HD := Lib.hid hD
  have HR := Lib.hid (fun W => refCompare_any t u W)
  have HP := Lib.hid (fun W => pack_any t W)
  have HQ := Lib.hid (fun W => pack_any u W)
  have HPH := Lib.hid (fun W => phase_any ph W)
  have HRP := Lib.hid (fun W => refPhase_any ph W)
  obtain ⟨pn, hpn⟩ : ∃ s : ByteArray, ⟨(phaseL ph).toArray⟩ = s := ⟨_, rfl⟩
  rw [hpn] at HPH HRP
  have hz := cmpT_zero t u
  have hbd := cmpT_bd t u
  have hpvt : packV t = .agg #[.int .u64 0, .int .u64 0] := by simp [packV, h]
  rw [decide_eq_false h, hpvt] at HP
  have HQ := Lib.hid hq
  clear hq
  obtain ⟨n, hn⟩ : ∃ n, cmpT t u = n := ⟨_, rfl⟩
  rw [hn] at HC HD HR hz hbd
  obtain ⟨hn0, hn1⟩ := hbd
  obtain ⟨z, q1⟩ : ∃ z : Bool, (n == 0) = z := ⟨_, rfl⟩
  have gT := guardT
  have qT := eqlT
  have HX : Boxes w t u ((w.alloc (.cells #[.int .i64 t.a, .int .i64 t.b, .int .i64 t.p, .int .i64 t.r, .int .i64 t.c] 23)).alloc (.cells #[.int .i64 u.a, .int .i64 u.b, .int .i64 u.p, .int .i64 u.r, .int .i64 u.c] 23)) :=
    ⟨((Below.refl w.heap.size w).alloc (Nat.le_refl _) _).alloc (by simp) _, blk_alloc (heap_alloc_new w _) _, newAt (by simp) _⟩
  have HX0 := Lib.hid HX
  clear hD hpn hn hp HX
  obtain ⟨a0, a1, a2, a3, a4⟩ := t
  obtain ⟨b0, b1, b2, b3, b4⟩ := u
  have q2 : (a0 == b0 && (a1 == b1 && (a2 == b2 && (a3 == b3 && a4 == b4)))) = z := by
    rw [← q1, Bool.eq_iff_iff]
    simp [hz]
  have H1 := Lib.hid q1
  have H2 := Lib.hid q2
  clear q1 q2 hz
  unfold tgV at HC HD HR HP HQ ⊢
  dsimp only at HC HD HR HP HQ HX0 ⊢
  go_enter Tryd.func7, Tryd.ntmps7
  go_wp2_with fail
  (with_reducible refine (HC.out _).mono ?_)
  rintro e w1 ⟨rfl, hb⟩
  have HX1 := Lib.hid (HX0.out.next hb)
  clear hb HX0 HC
  have ca0 := blk_cell HX1.out.boxA 0
  have ca1 := blk_cell HX1.out.boxA 1
  have ca2 := blk_cell HX1.out.boxA 2
  have ca3 := blk_cell HX1.out.boxA 3
  have ca4 := blk_cell HX1.out.boxA 4
  have cb0 := blk_cell HX1.out.boxB 0
  have cb1 := blk_cell HX1.out.boxB 1
  have cb2 := blk_cell HX1.out.boxB 2
  have cb3 := blk_cell HX1.out.boxB 3
  have cb4 := blk_cell HX1.out.boxB 4
  go_wp2_with fail
  (with_reducible refine (HR.out _).mono ?_)
  rintro e w2 ⟨rfl, hb⟩
  have HX2 := Lib.hid (HX1.out.next hb)
  clear hb HX1 HR ca0 ca1 ca2 ca3 ca4 cb0 cb1 cb2 cb3 cb4
  have ca0 := blk_cell HX2.out.boxA 0
  have ca1 := blk_cell HX2.out.boxA 1
  have ca2 := blk_cell HX2.out.boxA 2
  have ca3 := blk_cell HX2.out.boxA 3
  have ca4 := blk_cell HX2.out.boxA 4
  have cb0 := blk_cell HX2.out.boxB 0
  have cb1 := blk_cell HX2.out.boxB 1
  have cb2 := blk_cell HX2.out.boxB 2
  have cb3 := blk_cell HX2.out.boxB 3
  have cb4 := blk_cell HX2.out.boxB 4
  go_wp2_with fail
  (with_reducible refine (HD.out _).mono ?_)
  rintro e w3 ⟨rfl, hb⟩
  have HX3 := Lib.hid (HX2.out.next hb)
  clear hb HX2 HD ca0 ca1 ca2 ca3 ca4 cb0 cb1 cb2 cb3 cb4
  have ca0 := blk_cell HX3.out.boxA 0
  have ca1 := blk_cell HX3.out.boxA 1
  have ca2 := blk_cell HX3.out.boxA 2
  have ca3 := blk_cell HX3.out.boxA 3
  have ca4 := blk_cell HX3.out.boxA 4
  have cb0 := blk_cell HX3.out.boxB 0
  have cb1 := blk_cell HX3.out.boxB 1
  have cb2 := blk_cell HX3.out.boxB 2
  have cb3 := blk_cell HX3.out.boxB 3
  have cb4 := blk_cell HX3.out.boxB 4
  have q1 := H1.out
  have q2 := H2.out
  go_wp2_with fail
  (with_reducible refine (HPH.out _).mono ?_)
  rintro e w4 ⟨rfl, rfl⟩
  go_wp2_with fail
  (with_reducible refine (HRP.out _).mono ?_)
  rintro e w4 ⟨rfl, rfl⟩
  clear q1 q2
  go_wp2_with fail
  (with_reducible refine (HP.out _).mono ?_)
  rintro e w5 ⟨rfl, hb⟩
  have HX5 := Lib.hid (HX3.out.next hb)
  clear hb HX3 HP ca0 ca1 ca2 ca3 ca4 cb0 cb1 cb2 cb3 cb4
  have cb0 := blk_cell HX5.out.boxB 0
  have cb1 := blk_cell HX5.out.boxB 1
  have cb2 := blk_cell HX5.out.boxB 2
  have cb3 := blk_cell HX5.out.boxB 3
  have cb4 := blk_cell HX5.out.boxB 4
  have hlt5 := blk_lt HX5.out.boxB
  have HY5 := Lib.hid (HX5.out.alloc (.cells #[.int .u64 (0), .int .u64 (0)] 25))
  have HG5 := Lib.hid (heap_alloc_new w5 (.cells #[.int .u64 (0), .int .u64 (0)] 25))
  go_wp2_with fail
  (with_reducible refine (HQ.out _).mono ?_)
  rintro e w6 ⟨rfl, hb⟩
  have HX6 := Lib.hid (HY5.out.next hb)
  have HG6 := Lib.hid (blk_keep HG5.out hb)
  clear hb HX5 HY5 HG5 HQ cb0 cb1 cb2 cb3 cb4 hlt5
  have hgl := blk_lt HG6.out
  have HB7 := Lib.hid (HX6.out.alloc (.cells #[.int .u64 (u0), .int .u64 (u1)] 25)).below
  have HG7 := Lib.hid (blk_alloc HG6.out (.cells #[.int .u64 (u0), .int .u64 (u1)] 25))
  have HK7 := Lib.hid (heap_alloc_new w6 (.cells #[.int .u64 (u0), .int .u64 (u1)] 25))
  clear HX6 HG6
  go_wp2_with fail
  refine wp_region_in (C := Keeps w) (by kernel_rfl) (by kernel_rfl) (below_drew HB7.out) ?_
  clear HG7 HK7 HPH HRP H1 H2 gT qT hn0 hn1
  go_big_quiet_want
  go_big_quiet_op
  apply Exists.intro
  refine ⟨fun _ => ?_, ?_⟩
  · intro hC; go_at_call 17; exact (HA.out _ hC).mono fun _ _ h => ⟨h.1, Below.trans hC (h.2.mono (Below.size hC))⟩
  go_big_quiet_on
  repeat (first | go_big_quiet_skip | (go_big_quiet_want; go_big_quiet_op; first | go_big_quiet_on | (refine ⟨_, fun _ _ => rfl, ?_⟩; go_big_quiet_on)))
  refine wpQuiet_nil ?_
  intro w9 hC9
  have HB9 := Lib.hid hC9
  clear hC9
  go_wp2_with fail
  go_ret
  exact ⟨rfl, HB9.out⟩


set_option maxRecDepth 100000 in
set_option maxHeartbeats 4000000 in
theorem tagOrders_not (t u : Tg) (ph : Int) (w : World) (hp : Pow w.heap.size w) (h : tagOk t) (h' : ¬ tagOk u) :
    Calls Tryd.prog 7 #[tgV t, tgV u, .int .i64 ph] w fun e w' => e = .returned (.bool true) ∧ Below w.heap.size w w' := by
  have HA := Lib.hid (fun W (hb : Below w.heap.size w W) => alive17_any w.heap.size W (hp.on hb) hb.size)
  have HC := Lib.hid (fun W => compare_any t u W)
  have hD : ∀ W, Calls Tryd.prog 29 #[tgV u, tgV t] W fun e w' => e = .returned (.int .i64 (-cmpT t u)) ∧ Below W.heap.size W w' := fun W => by
    have := compare_any u t W
    rw [cmpT_neg] at this
    exact this
  have HD := Lib.hid hD
  have HR := Lib.hid (fun W => refCompare_any t u W)
  have HP := Lib.hid (fun W => pack_any t W)
  have HQ := Lib.hid (fun W => pack_any u W)
  have HPH := Lib.hid (fun W => phase_any ph W)
  have HRP := Lib.hid (fun W => refPhase_any ph W)
  obtain ⟨pn, hpn⟩ : ∃ s : ByteArray, ⟨(phaseL ph).toArray⟩ = s := ⟨_, rfl⟩
  rw [hpn] at HPH HRP
  have hz := cmpT_zero t u
  have hbd := cmpT_bd t u
  have hpvt : packV t = .agg #[.int .u64 (packA t), .int .u64 (packB t)] := by simp [packV, h]
  rw [decide_eq_true h, hpvt] at HP
  have hpvu : packV u = .agg #[.int .u64 0, .int .u64 0] := by simp [packV, h']
  rw [decide_eq_false h', hpvu] at HQ
  generalize packA t = x0 at HP
  generalize packB t = x1 at HP
  obtain ⟨n, hn⟩ : ∃ n, cmpT t u = n := ⟨_, rfl⟩
  rw [hn] at HC HD HR hz hbd
  obtain ⟨hn0, hn1⟩ := hbd
  obtain ⟨z, q1⟩ : ∃ z : Bool, (n == 0) = z := ⟨_, rfl⟩
  have gT := guardT
  have qT := eqlT
  have HX : Boxes w t u ((w.alloc (.cells #[.int .i64 t.a, .int .i64 t.b, .int .i64 t.p, .int .i64 t.r, .int .i64 t.c] 23)).alloc (.cells #[.int .i64 u.a, .int .i64 u.b, .int .i64 u.p, .int .i64 u.r, .int .i64 u.c] 23)) :=
    ⟨((Below.refl w.heap.size w).alloc (Nat.le_refl _) _).alloc (by simp) _, blk_alloc (heap_alloc_new w _) _, newAt (by simp) _⟩
  have HX0 := Lib.hid HX
  clear hD hpn hn hp HX
  obtain ⟨a0, a1, a2, a3, a4⟩ := t
  obtain ⟨b0, b1, b2, b3, b4⟩ := u
  have q2 : (a0 == b0 && (a1 == b1 && (a2 == b2 && (a3 == b3 && a4 == b4)))) = z := by
    rw [← q1, Bool.eq_iff_iff]
    simp [hz]
  have H1 := Lib.hid q1
  have H2 := Lib.hid q2
  clear q1 q2 hz
  unfold tgV at HC HD HR HP HQ ⊢
  dsimp only at HC HD HR HP HQ HX0 ⊢
  go_enter Tryd.func7, Tryd.ntmps7
  go_wp2_with fail
  (with_reducible refine (HC.out _).mono ?_)
  rintro e w1 ⟨rfl, hb⟩
  have HX1 := Lib.hid (HX0.out.next hb)
  clear hb HX0 HC
  have ca0 := blk_cell HX1.out.boxA 0
  have ca1 := blk_cell HX1.out.boxA 1
  have ca2 := blk_cell HX1.out.boxA 2
  have ca3 := blk_cell HX1.out.boxA 3
  have ca4 := blk_cell HX1.out.boxA 4
  have cb0 := blk_cell HX1.out.boxB 0
  have cb1 := blk_cell HX1.out.boxB 1
  have cb2 := blk_cell HX1.out.boxB 2
  have cb3 := blk_cell HX1.out.boxB 3
  have cb4 := blk_cell HX1.out.boxB 4
  go_wp2_with fail
  (with_reducible refine (HR.out _).mono ?_)
  rintro e w2 ⟨rfl, hb⟩
  have HX2 := Lib.hid (HX1.out.next hb)
  clear hb HX1 HR ca0 ca1 ca2 ca3 ca4 cb0 cb1 cb2 cb3 cb4
  have ca0 := blk_cell HX2.out.boxA 0
  have ca1 := blk_cell HX2.out.boxA 1
  have ca2 := blk_cell HX2.out.boxA 2
  have ca3 := blk_cell HX2.out.boxA 3
  have ca4 := blk_cell HX2.out.boxA 4
  have cb0 := blk_cell HX2.out.boxB 0
  have cb1 := blk_cell HX2.out.boxB 1
  have cb2 := blk_cell HX2.out.boxB 2
  have cb3 := blk_cell HX2.out.boxB 3
  have cb4 := blk_cell HX2.out.boxB 4
  go_wp2_with fail
  (with_reducible refine (HD.out _).mono ?_)
  rintro e w3 ⟨rfl, hb⟩
  have HX3 := Lib.hid (HX2.out.next hb)
  clear hb HX2 HD ca0 ca1 ca2 ca3 ca4 cb0 cb1 cb2 cb3 cb4
  have ca0 := blk_cell HX3.out.boxA 0
  have ca1 := blk_cell HX3.out.boxA 1
  have ca2 := blk_cell HX3.out.boxA 2
  have ca3 := blk_cell HX3.out.boxA 3
  have ca4 := blk_cell HX3.out.boxA 4
  have cb0 := blk_cell HX3.out.boxB 0
  have cb1 := blk_cell HX3.out.boxB 1
  have cb2 := blk_cell HX3.out.boxB 2
  have cb3 := blk_cell HX3.out.boxB 3
  have cb4 := blk_cell HX3.out.boxB 4
  have q1 := H1.out
  have q2 := H2.out
  go_wp2_with fail
  (with_reducible refine (HPH.out _).mono ?_)
  rintro e w4 ⟨rfl, rfl⟩
  go_wp2_with fail
  (with_reducible refine (HRP.out _).mono ?_)
  rintro e w4 ⟨rfl, rfl⟩
  clear q1 q2
  go_wp2_with fail
  (with_reducible refine (HP.out _).mono ?_)
  rintro e w5 ⟨rfl, hb⟩
  have HX5 := Lib.hid (HX3.out.next hb)
  clear hb HX3 HP ca0 ca1 ca2 ca3 ca4 cb0 cb1 cb2 cb3 cb4
  have cb0 := blk_cell HX5.out.boxB 0
  have cb1 := blk_cell HX5.out.boxB 1
  have cb2 := blk_cell HX5.out.boxB 2
  have cb3 := blk_cell HX5.out.boxB 3
  have cb4 := blk_cell HX5.out.boxB 4
  have hlt5 := blk_lt HX5.out.boxB
  have HY5 := Lib.hid (HX5.out.alloc (.cells #[.int .u64 (x0), .int .u64 (x1)] 25))
  have HG5 := Lib.hid (heap_alloc_new w5 (.cells #[.int .u64 (x0), .int .u64 (x1)] 25))
  go_wp2_with fail
  (with_reducible refine (HQ.out _).mono ?_)
  rintro e w6 ⟨rfl, hb⟩
  have HX6 := Lib.hid (HY5.out.next hb)
  have HG6 := Lib.hid (blk_keep HG5.out hb)
  clear hb HX5 HY5 HG5 HQ cb0 cb1 cb2 cb3 cb4 hlt5
  have hgl := blk_lt HG6.out
  have HB7 := Lib.hid (HX6.out.alloc (.cells #[.int .u64 (0), .int .u64 (0)] 25)).below
  have HG7 := Lib.hid (blk_alloc HG6.out (.cells #[.int .u64 (0), .int .u64 (0)] 25))
  have HK7 := Lib.hid (heap_alloc_new w6 (.cells #[.int .u64 (0), .int .u64 (0)] 25))
  clear HX6 HG6
  go_wp2_with fail
  refine wp_region_in (C := Keeps w) (by kernel_rfl) (by kernel_rfl) (below_drew HB7.out) ?_
  clear HG7 HK7 HPH HRP H1 H2 gT qT hn0 hn1
  go_big_quiet_want
  go_big_quiet_op
  apply Exists.intro
  refine ⟨fun _ => ?_, ?_⟩
  · intro hC; go_at_call 17; exact (HA.out _ hC).mono fun _ _ h => ⟨h.1, Below.trans hC (h.2.mono (Below.size hC))⟩
  go_big_quiet_on
  repeat (first | go_big_quiet_skip | (go_big_quiet_want; go_big_quiet_op; first | go_big_quiet_on | (refine ⟨_, fun _ _ => rfl, ?_⟩; go_big_quiet_on)))
  refine wpQuiet_nil ?_
  intro w9 hC9
  have HB9 := Lib.hid hC9
  clear hC9
  go_wp2_with fail
  go_ret
  exact ⟨rfl, HB9.out⟩


set_option maxRecDepth 100000 in
set_option maxHeartbeats 4000000 in
theorem tagOrders_both (t u : Tg) (ph : Int) (w : World) (hp : Pow w.heap.size w) (h : tagOk t) (h' : tagOk u) :
    Calls Tryd.prog 7 #[tgV t, tgV u, .int .i64 ph] w fun e w' => e = .returned (.bool true) ∧ Below w.heap.size w w' := by
  have HA := Lib.hid (fun W (hb : Below w.heap.size w W) => alive17_any w.heap.size W (hp.on hb) hb.size)
  have HC := Lib.hid (fun W => compare_any t u W)
  have hD : ∀ W, Calls Tryd.prog 29 #[tgV u, tgV t] W fun e w' => e = .returned (.int .i64 (-cmpT t u)) ∧ Below W.heap.size W w' := fun W => by
    have := compare_any u t W
    rw [cmpT_neg] at this
    exact this
  have HD := Lib.hid hD
  have HR := Lib.hid (fun W => refCompare_any t u W)
  have HP := Lib.hid (fun W => pack_any t W)
  have HQ := Lib.hid (fun W => pack_any u W)
  have HPH := Lib.hid (fun W => phase_any ph W)
  have HRP := Lib.hid (fun W => refPhase_any ph W)
  obtain ⟨pn, hpn⟩ : ∃ s : ByteArray, ⟨(phaseL ph).toArray⟩ = s := ⟨_, rfl⟩
  rw [hpn] at HPH HRP
  have hz := cmpT_zero t u
  have hbd := cmpT_bd t u
  have hpvt : packV t = .agg #[.int .u64 (packA t), .int .u64 (packB t)] := by simp [packV, h]
  rw [decide_eq_true h, hpvt] at HP
  have hpvu : packV u = .agg #[.int .u64 (packA u), .int .u64 (packB u)] := by simp [packV, h']
  rw [decide_eq_true h', hpvu] at HQ
  have hpk := cmpT_pack h h'
  have HC1 := Lib.hid (fun W => compareU64_any (packA t) (packA u) W)
  have HC2 := Lib.hid (fun W => compareU64_any (packB t) (packB u) W)
  generalize packA t = x0 at HP HC1 hpk
  generalize packB t = x1 at HP HC2 hpk
  generalize packA u = y0 at HQ HC1 hpk
  generalize packB u = y1 at HQ HC2 hpk
  have HPK := Lib.hid hpk.symm
  clear hpk
  obtain ⟨n, hn⟩ : ∃ n, cmpT t u = n := ⟨_, rfl⟩
  rw [hn] at HC HD HR hz hbd HPK
  obtain ⟨hn0, hn1⟩ := hbd
  obtain ⟨z, q1⟩ : ∃ z : Bool, (n == 0) = z := ⟨_, rfl⟩
  have gT := guardT
  have qT := eqlT
  have HX : Boxes w t u ((w.alloc (.cells #[.int .i64 t.a, .int .i64 t.b, .int .i64 t.p, .int .i64 t.r, .int .i64 t.c] 23)).alloc (.cells #[.int .i64 u.a, .int .i64 u.b, .int .i64 u.p, .int .i64 u.r, .int .i64 u.c] 23)) :=
    ⟨((Below.refl w.heap.size w).alloc (Nat.le_refl _) _).alloc (by simp) _, blk_alloc (heap_alloc_new w _) _, newAt (by simp) _⟩
  have HX0 := Lib.hid HX
  clear hD hpn hn hp HX
  obtain ⟨a0, a1, a2, a3, a4⟩ := t
  obtain ⟨b0, b1, b2, b3, b4⟩ := u
  have q2 : (a0 == b0 && (a1 == b1 && (a2 == b2 && (a3 == b3 && a4 == b4)))) = z := by
    rw [← q1, Bool.eq_iff_iff]
    simp [hz]
  have H1 := Lib.hid q1
  have H2 := Lib.hid q2
  clear q1 q2 hz
  unfold tgV at HC HD HR HP HQ ⊢
  dsimp only at HC HD HR HP HQ HX0 ⊢
  go_enter Tryd.func7, Tryd.ntmps7
  go_wp2_with fail
  (with_reducible refine (HC.out _).mono ?_)
  rintro e w1 ⟨rfl, hb⟩
  have HX1 := Lib.hid (HX0.out.next hb)
  clear hb HX0 HC
  have ca0 := blk_cell HX1.out.boxA 0
  have ca1 := blk_cell HX1.out.boxA 1
  have ca2 := blk_cell HX1.out.boxA 2
  have ca3 := blk_cell HX1.out.boxA 3
  have ca4 := blk_cell HX1.out.boxA 4
  have cb0 := blk_cell HX1.out.boxB 0
  have cb1 := blk_cell HX1.out.boxB 1
  have cb2 := blk_cell HX1.out.boxB 2
  have cb3 := blk_cell HX1.out.boxB 3
  have cb4 := blk_cell HX1.out.boxB 4
  go_wp2_with fail
  (with_reducible refine (HR.out _).mono ?_)
  rintro e w2 ⟨rfl, hb⟩
  have HX2 := Lib.hid (HX1.out.next hb)
  clear hb HX1 HR ca0 ca1 ca2 ca3 ca4 cb0 cb1 cb2 cb3 cb4
  have ca0 := blk_cell HX2.out.boxA 0
  have ca1 := blk_cell HX2.out.boxA 1
  have ca2 := blk_cell HX2.out.boxA 2
  have ca3 := blk_cell HX2.out.boxA 3
  have ca4 := blk_cell HX2.out.boxA 4
  have cb0 := blk_cell HX2.out.boxB 0
  have cb1 := blk_cell HX2.out.boxB 1
  have cb2 := blk_cell HX2.out.boxB 2
  have cb3 := blk_cell HX2.out.boxB 3
  have cb4 := blk_cell HX2.out.boxB 4
  go_wp2_with fail
  (with_reducible refine (HD.out _).mono ?_)
  rintro e w3 ⟨rfl, hb⟩
  have HX3 := Lib.hid (HX2.out.next hb)
  clear hb HX2 HD ca0 ca1 ca2 ca3 ca4 cb0 cb1 cb2 cb3 cb4
  have ca0 := blk_cell HX3.out.boxA 0
  have ca1 := blk_cell HX3.out.boxA 1
  have ca2 := blk_cell HX3.out.boxA 2
  have ca3 := blk_cell HX3.out.boxA 3
  have ca4 := blk_cell HX3.out.boxA 4
  have cb0 := blk_cell HX3.out.boxB 0
  have cb1 := blk_cell HX3.out.boxB 1
  have cb2 := blk_cell HX3.out.boxB 2
  have cb3 := blk_cell HX3.out.boxB 3
  have cb4 := blk_cell HX3.out.boxB 4
  have q1 := H1.out
  have q2 := H2.out
  go_wp2_with fail
  (with_reducible refine (HPH.out _).mono ?_)
  rintro e w4 ⟨rfl, rfl⟩
  go_wp2_with fail
  (with_reducible refine (HRP.out _).mono ?_)
  rintro e w4 ⟨rfl, rfl⟩
  clear q1 q2
  go_wp2_with fail
  (with_reducible refine (HP.out _).mono ?_)
  rintro e w5 ⟨rfl, hb⟩
  have HX5 := Lib.hid (HX3.out.next hb)
  clear hb HX3 HP ca0 ca1 ca2 ca3 ca4 cb0 cb1 cb2 cb3 cb4
  have cb0 := blk_cell HX5.out.boxB 0
  have cb1 := blk_cell HX5.out.boxB 1
  have cb2 := blk_cell HX5.out.boxB 2
  have cb3 := blk_cell HX5.out.boxB 3
  have cb4 := blk_cell HX5.out.boxB 4
  have hlt5 := blk_lt HX5.out.boxB
  have HY5 := Lib.hid (HX5.out.alloc (.cells #[.int .u64 (x0), .int .u64 (x1)] 25))
  have HG5 := Lib.hid (heap_alloc_new w5 (.cells #[.int .u64 (x0), .int .u64 (x1)] 25))
  go_wp2_with fail
  (with_reducible refine (HQ.out _).mono ?_)
  rintro e w6 ⟨rfl, hb⟩
  have HX6 := Lib.hid (HY5.out.next hb)
  have HG6 := Lib.hid (blk_keep HG5.out hb)
  clear hb HX5 HY5 HG5 HQ cb0 cb1 cb2 cb3 cb4 hlt5
  have hgl := blk_lt HG6.out
  have HB7 := Lib.hid (HX6.out.alloc (.cells #[.int .u64 (y0), .int .u64 (y1)] 25)).below
  have HG7 := Lib.hid (blk_alloc HG6.out (.cells #[.int .u64 (y0), .int .u64 (y1)] 25))
  have HK7 := Lib.hid (heap_alloc_new w6 (.cells #[.int .u64 (y0), .int .u64 (y1)] 25))
  clear HX6 HG6
  go_wp2_with fail
  go_region_held3 (fun w' => w'.cell? ⟨w5.heap.size, 0, none⟩ = some (.int .u64 x0) ∧ w'.cell? ⟨w5.heap.size, 1, none⟩ = some (.int .u64 x1) ∧ w'.cell? ⟨w6.heap.size, 0, none⟩ = some (.int .u64 y0) ∧ w'.cell? ⟨w6.heap.size, 1, none⟩ = some (.int .u64 y1))
    (first
      | exact ⟨blk_cell HG9.out 0, blk_cell HG9.out 1, blk_cell HK9.out 0, blk_cell HK9.out 1⟩
      | exact ⟨blk_cell HG8.out 0, blk_cell HG8.out 1, blk_cell HK8.out 0, blk_cell HK8.out 1⟩
      | exact ⟨blk_cell HG7.out 0, blk_cell HG7.out 1, blk_cell HK7.out 0, blk_cell HK7.out 1⟩)
    (first
      | (go_at_call 17
         (with_reducible refine (HA.out _ (below_drew HB7.out)).mono ?_)
         rintro e w8 ⟨rfl, hb⟩
         have HB8 := Lib.hid ((below_drew HB7.out).trans (hb.mono HB7.out.size))
         have HG8 := Lib.hid (blk_keep (blk_drew HG7.out) hb)
         have HK8 := Lib.hid (blk_keep (blk_drew HK7.out) hb)
         have HB9 := Lib.hid (HB8.out.alloc HB8.out.size (.cells #[.int .i64 (cmpI x0 y0), .int .i64 (cmpI x1 y1)] 3))
         have HG9 := Lib.hid (blk_alloc HG8.out (.cells #[.int .i64 (cmpI x0 y0), .int .i64 (cmpI x1 y1)] 3))
         have HK9 := Lib.hid (blk_alloc HK8.out (.cells #[.int .i64 (cmpI x0 y0), .int .i64 (cmpI x1 y1)] 3))
         have HN := Lib.hid (heap_alloc_new w8 (.cells #[.int .i64 (cmpI x0 y0), .int .i64 (cmpI x1 y1)] 3))
         have HOR := Lib.hid (or_any w8.heap.size (cmpI x0 y0) (cmpI x1 y1) _ (blk_cell HN.out 0) (blk_cell HN.out 1))
         rw [HPK.out] at HOR
         clear hb HB7 HA HG7 HK7)
      | (go_at_call 34
         (with_reducible refine (HC1.out _).mono ?_)
         rintro e w9 ⟨rfl, rfl⟩
         clear HC1)
      | (go_at_call 34
         (with_reducible refine (HC2.out _).mono ?_)
         rintro e w9 ⟨rfl, rfl⟩
         clear HC2)
      | (go_at_call 33
         (with_reducible refine HOR.out.mono ?_)
         rintro e w9 ⟨rfl, rfl⟩
         clear HOR))
  go_wp2_with fail
  go_ret
  exact ⟨by simp, HB9.out⟩


theorem tagOrders_any (t u : Tg) (ph : Int) (w : World) (hp : Pow w.heap.size w) :
    Calls Tryd.prog 7 #[tgV t, tgV u, .int .i64 ph] w fun e w' => e = .returned (.bool true) ∧ Below w.heap.size w w' := by
  by_cases h : tagOk t
  · by_cases h' : tagOk u
    · exact tagOrders_both t u ph w hp h h'
    · exact tagOrders_not t u ph w hp h h'
  · by_cases h' : tagOk u
    · refine tagOrders_no t u ph w hp h (packA u) (packB u) true fun W => ?_
      have := pack_any u W
      rw [decide_eq_true h', show packV u = .agg #[.int .u64 (packA u), .int .u64 (packB u)] by simp [packV, h']] at this
      exact this
    · refine tagOrders_no t u ph w hp h 0 0 false fun W => ?_
      have := pack_any u W
      rw [decide_eq_false h', show packV u = .agg #[.int .u64 0, .int .u64 0] by simp [packV, h']] at this
      exact this

end Go.Proofs.YtajilipbnfpemaaDoor
