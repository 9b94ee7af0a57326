/- Walks: conf.Same and the reference's Same. Conditions: none. -/
import Derived.Test.YtiokdfkddcokoaaGreatDoorConfEq9
import Derived.Test.YtiokdfkddcokoaaGreatDoorSameP
import Derived.Test.YtiokdfkddcokoaaGreatDoorEqualInt
namespace Go.Proofs.YtiokdfkddcokoaaGreatDoor
open Go.RowKit

theorem eqIn9 (c d : Cf) (w : World) : (Op.equalIn 10000 55 (.agg ((nums9 c).map (Value.int .i64)).toArray) (.agg ((nums9 d).map (Value.int .i64)).toArray)).run Tryz.prog w = .ok (decide (nums9 c = nums9 d)) w := by
  have h := run_eq_array9 (P := Tryz.prog) 9998 55 3 .i64 Tryz.underlying55 Tryz.underlying3 Tryz.isAgg3 Tryz.sizeOf3 c.sh c.wo c.ba c.mi c.st c.bu c.ch c.wi c.ca d.sh d.wo d.ba d.mi d.st d.bu d.ch d.wi d.ca w
  have e : ((c.sh == d.sh) && ((c.wo == d.wo) && ((c.ba == d.ba) && ((c.mi == d.mi) && ((c.st == d.st) && ((c.bu == d.bu) && ((c.ch == d.ch) && ((c.wi == d.wi) && (c.ca == d.ca))))))))) = decide (nums9 c = nums9 d) := by
    rw [Bool.eq_iff_iff]
    simp [nums9]
  rw [e] at h
  exact h

set_option maxRecDepth 100000 in
set_option maxHeartbeats 8000000 in
theorem confSame_any (A D : Option Addr) (cap cap' : Nat) (zs us : List Int) (c d : Cf) (w : World) (hr : RdI w w.heap.size A zs) (hs : RdI w w.heap.size D us) (hz : zs.length ≤ 9223372036854775807) (hu : us.length ≤ 9223372036854775807) :
    Calls Tryz.prog 12 #[.agg (cfCells A zs.length cap c), .agg (cfCells D us.length cap' d)] w fun e w' => e = .returned (.bool (sameCf zs us c d)) ∧ Below w.heap.size w w' := by
  have hb1 := (Below.refl w.heap.size w).alloc (Nat.le_refl _) (.cells (cfCells A zs.length cap c) 24)
  have hb2 := hb1.alloc hb1.size (.cells (cfCells D us.length cap' d) 24)
  have h1 := blk_alloc (heap_alloc_new w (.cells (cfCells A zs.length cap c) 24)) (.cells (cfCells D us.length cap' d) 24)
  have h2 := heap_alloc_new (w.alloc (.cells (cfCells A zs.length cap c) 24)) (.cells (cfCells D us.length cap' d) 24)
  rw [World.size_alloc] at h2
  have HE := Lib.hid (equalInt_any A D cap cap' zs us ((w.alloc (.cells (cfCells A zs.length cap c) 24)).alloc (.cells (cfCells D us.length cap' d) 24)) ((hr.below hb2).more hb2.size) ((hs.below hb2).more hb2.size) hz hu)
  have H1 := Lib.hid h1
  have H2 := Lib.hid h2
  have HB2 := Lib.hid hb2
  have HNC := Lib.hid (fun W => nums_any A zs.length cap c W)
  have HND := Lib.hid (fun W => nums_any D us.length cap' d W)
  have HQ := Lib.hid (eqIn9 c d)
  have hsame : sameCf zs us c d = (decide (zs = us) && (decide (c.ra = d.ra) && (decide (c.mo = d.mo) && decide (nums9 c = nums9 d)))) := rfl
  generalize sameCf zs us c d = R at hsame ⊢
  have HR := Lib.hid hsame
  obtain ⟨q0, hq0⟩ : ∃ b, decide (zs = us) = b := ⟨_, rfl⟩
  obtain ⟨q1, hq1⟩ : ∃ b, decide (c.ra = d.ra) = b := ⟨_, rfl⟩
  obtain ⟨q2, hq2⟩ : ∃ b, decide (c.mo = d.mo) = b := ⟨_, rfl⟩
  rw [hq0] at HE
  rw [hq0, hq1, hq2] at HR
  have e1 : (c.ra != d.ra) = !q1 := by rw [← hq1]; by_cases h : c.ra = d.ra <;> simp [h]
  have e2 : (c.mo != d.mo) = !q2 := by rw [← hq2]; by_cases h : c.mo = d.mo <;> simp [h]
  clear hb1 hb2 h1 h2 hr hs hz hu hsame hq0 hq1 hq2
  unfold cfCells at HE H1 H2 HB2 ⊢
  cases q0
  · as_aux_lemma =>
      have HR' := Lib.hid (show R = false by rw [HR.out]; rfl)
      clear HR e1 e2
      go_enter Tryz.func12, Tryz.ntmps12
      go_wp2_with fail
      (with_reducible refine HE.out.mono ?_)
      rintro e w1 ⟨rfl, hb⟩
      have HB3 := Lib.hid (HB2.out.trans (hb.mono HB2.out.size))
      clear hb
      go_wp2_with fail
      go_ret
      exact ⟨ret_bool HR'.out.symm, HB3.out⟩
  cases q1
  · as_aux_lemma =>
      have HR' := Lib.hid (show R = false by rw [HR.out]; rfl)
      clear HR e2
      replace e1 : (c.ra != d.ra) = true := e1
      go_enter Tryz.func12, Tryz.ntmps12
      go_wp2_with fail
      (with_reducible refine HE.out.mono ?_)
      rintro e w1 ⟨rfl, hb⟩
      have HB3 := Lib.hid (HB2.out.trans (hb.mono HB2.out.size))
      have H13 := Lib.hid (blk_below H1.out hb (blk_lt H1.out))
      have H23 := Lib.hid (blk_below H2.out hb (blk_lt H2.out))
      have a2 := blk_cell H13.out 2
      have b2 := blk_cell H23.out 2
      clear hb
      go_wp2_with fail
      go_ret
      exact ⟨ret_bool HR'.out.symm, HB3.out⟩
  replace e1 : (c.ra != d.ra) = false := e1
  cases q2
  · as_aux_lemma =>
      have HR' := Lib.hid (show R = false by rw [HR.out]; rfl)
      clear HR
      replace e2 : (c.mo != d.mo) = true := e2
      go_enter Tryz.func12, Tryz.ntmps12
      go_wp2_with fail
      (with_reducible refine HE.out.mono ?_)
      rintro e w1 ⟨rfl, hb⟩
      have HB3 := Lib.hid (HB2.out.trans (hb.mono HB2.out.size))
      have H13 := Lib.hid (blk_below H1.out hb (blk_lt H1.out))
      have H23 := Lib.hid (blk_below H2.out hb (blk_lt H2.out))
      have a2 := blk_cell H13.out 2
      have b2 := blk_cell H23.out 2
      have a3 := blk_cell H13.out 3
      have b3 := blk_cell H23.out 3
      clear hb
      go_wp2_with fail
      go_ret
      exact ⟨ret_bool HR'.out.symm, HB3.out⟩
  replace e2 : (c.mo != d.mo) = false := e2
  obtain ⟨q3, hq3⟩ : ∃ b, decide (nums9 c = nums9 d) = b := ⟨_, rfl⟩
  rw [hq3] at HR HQ
  have HR' := Lib.hid (show R = q3 by rw [HR.out]; rfl)
  clear HR hq3
  go_enter Tryz.func12, Tryz.ntmps12
  go_wp2_with fail
  (with_reducible refine HE.out.mono ?_)
  rintro e w1 ⟨rfl, hb⟩
  have HB3 := Lib.hid (HB2.out.trans (hb.mono HB2.out.size))
  have H13 := Lib.hid (blk_below H1.out hb (blk_lt H1.out))
  have H23 := Lib.hid (blk_below H2.out hb (blk_lt H2.out))
  have a2 := blk_cell H13.out 2
  have b2 := blk_cell H23.out 2
  have a3 := blk_cell H13.out 3
  have b3 := blk_cell H23.out 3
  have HC1 := Lib.hid (fun W (hW : Keeps w1 W) => blk_below H13.out hW (blk_lt H13.out))
  have HC2 := Lib.hid (fun W (hW : Keeps w1 W) => blk_below H23.out hW (blk_lt H23.out))
  have HSZ := Lib.hid (Below.size HB3.out)
  clear hb H1 H2 HB2 HE
  unfold cfCells at HNC HND
  go_wp2_with fail
  clear a2 a3 b2 b3
  refine wp_region_in (C := Keeps w1) (by kernel_rfl) (by kernel_rfl) (Keeps.self w1) ?_
  go_big_quiet_want
  go_big_quiet_op
  first | go_big_quiet_on | (refine ⟨_, fun _ _ => rfl, ?_⟩; go_big_quiet_on)
  go_big_quiet_want
  go_big_quiet_op
  (refine ⟨.agg #[.slice A zs.length cap, .int .i64 c.sh, .int .i64 c.ra, .int .i64 c.mo, .int .i64 c.wo, .int .i64 c.ba, .int .i64 c.mi, .int .i64 c.st, .int .i64 c.bu, .int .i64 c.ch, .int .i64 c.wi, .int .i64 c.ca], ?_, ?_⟩; (focus (intro W hW; simp [blk_cell (HC1.out W hW) 0, blk_cell (HC1.out W hW) 1, blk_cell (HC1.out W hW) 2, blk_cell (HC1.out W hW) 3, blk_cell (HC1.out W hW) 4, blk_cell (HC1.out W hW) 5, blk_cell (HC1.out W hW) 6, blk_cell (HC1.out W hW) 7, blk_cell (HC1.out W hW) 8, blk_cell (HC1.out W hW) 9, blk_cell (HC1.out W hW) 10, blk_cell (HC1.out W hW) 11, Result.andThen]; done)); go_big_quiet_on)
  go_big_quiet_want
  go_big_quiet_op
  (apply Exists.intro; refine ⟨fun _ => ?_, ?_⟩; (focus (intro hC; go_at_call 26; exact (HNC.out _).mono fun _ _ h => ⟨h.1, Below.trans hC (h.2.mono (Below.size hC))⟩)); go_big_quiet_on)
  go_big_quiet_want
  go_big_quiet_op
  first | go_big_quiet_on | (refine ⟨_, fun _ _ => rfl, ?_⟩; go_big_quiet_on)
  go_big_quiet_want
  go_big_quiet_op
  (refine ⟨.agg #[.slice D us.length cap', .int .i64 d.sh, .int .i64 d.ra, .int .i64 d.mo, .int .i64 d.wo, .int .i64 d.ba, .int .i64 d.mi, .int .i64 d.st, .int .i64 d.bu, .int .i64 d.ch, .int .i64 d.wi, .int .i64 d.ca], ?_, ?_⟩; (focus (intro W hW; simp [blk_cell (HC2.out W hW) 0, blk_cell (HC2.out W hW) 1, blk_cell (HC2.out W hW) 2, blk_cell (HC2.out W hW) 3, blk_cell (HC2.out W hW) 4, blk_cell (HC2.out W hW) 5, blk_cell (HC2.out W hW) 6, blk_cell (HC2.out W hW) 7, blk_cell (HC2.out W hW) 8, blk_cell (HC2.out W hW) 9, blk_cell (HC2.out W hW) 10, blk_cell (HC2.out W hW) 11, Result.andThen]; done)); go_big_quiet_on)
  go_big_quiet_want
  go_big_quiet_op
  (apply Exists.intro; refine ⟨fun _ => ?_, ?_⟩; (focus (intro hC; go_at_call 26; exact (HND.out _).mono fun _ _ h => ⟨h.1, Below.trans hC (h.2.mono (Below.size hC))⟩)); go_big_quiet_on)
  go_big_quiet_want
  go_big_quiet_op
  (refine ⟨.bool q3, ?_, ?_⟩; (focus (intro W hW; simp [HQ.out, Result.andThen]; done)); go_big_quiet_on)
  go_big_quiet_want
  go_big_quiet_op
  first | go_big_quiet_on | (refine ⟨_, fun _ _ => rfl, ?_⟩; go_big_quiet_on)
  refine wpQuiet_nil ?_
  intro w9 hC9
  have HB9 := Lib.hid (HB3.out.trans (Below.mono hC9 HSZ.out))
  clear hC9
  go_wp2_with fail
  go_ret
  exact ⟨ret_bool HR'.out.symm, HB9.out⟩

end Go.Proofs.YtiokdfkddcokoaaGreatDoor
