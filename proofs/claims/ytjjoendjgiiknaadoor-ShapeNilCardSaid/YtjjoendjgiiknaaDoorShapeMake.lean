/- Walk: shape.New at right sizes and at wrong ones. Conditions: the slice has room for its own elements, as every slice of Go has. -/
import Derived.Test.YtjjoendjgiiknaaDoorShapeNew
import Derived.Test.YtjjoendjgiiknaaDoorRegion
import Derived.Test.YtjjoendjgiiknaaDoorAppend
namespace Go.Proofs.YtjjoendjgiiknaaDoor
open Go.RowKit

/-- The pointer leads to the shape of these sizes; all of it lies below block B. -/
def IsShape (w : World) (B : Nat) (g : Nat) (zs : List Int) : Prop :=
  g < B ∧ ∃ (As Aw Ab : Option Addr) (cs cw cb : Nat), w.heap[g]? = some (.cells #[.slice As zs.length cs, .slice Aw (zs.length - 1) cw, .slice Ab (zs.length - 1) cb, .int .i64 (cnt zs)] 58 (0, 0)) ∧
    zs.length ≤ cs ∧ zs.length - 1 ≤ cw ∧ zs.length - 1 ≤ cb ∧ RdI w B As zs ∧ Rd w B Aw (wcells zs (zs.length - 1)) ∧ Rd w B Ab (bcells zs (zs.length - 1))

theorem IsShape.below {w w' : World} {B g : Nat} {zs : List Int} (h : IsShape w B g zs) (hb : Below B w w') : IsShape w' B g zs := by
  obtain ⟨hg, As, Aw, Ab, cs, cw, cb, h1, l1, l2, l3, h2, h3, h4⟩ := h
  exact ⟨hg, As, Aw, Ab, cs, cw, cb, blk_below h1 hb hg, l1, l2, l3, h2.below hb, h3.below hb, h4.below hb⟩

/-- What shape.New leaves: a shape and no error, or none and the code. -/
def Made (w : World) (zs : List Int) (e : Ending) (w' : World) : Prop :=
  Below w.heap.size w w' ∧ (shCode zs = 0 → ∃ g, e = .returned (.tuple #[.pointer (some ⟨g, 0, none⟩), .int .i64 0]) ∧ w.heap.size ≤ g ∧ IsShape w' w'.heap.size g zs) ∧
    (shCode zs ≠ 0 → e = .returned (.tuple #[.pointer none, .int .i64 (shCode zs)]))

/-- A shape all of whose memory lies from block lo on. -/
def ShapeFrom (w : World) (lo g : Nat) (zs : List Int) : Prop :=
  lo ≤ g ∧ ∃ (As Aw Ab : Option Addr) (cs cw cb : Nat), w.heap[g]? = some (.cells #[.slice As zs.length cs, .slice Aw (zs.length - 1) cw, .slice Ab (zs.length - 1) cb, .int .i64 (cnt zs)] 58 (0, 0)) ∧
    w.ownsRow lo 3 1 (.slice As zs.length cs) zs.length (zs.map (Value.int .i64)) ∧ w.ownsRow lo 35 2 (.slice Aw (zs.length - 1) cw) (zs.length - 1) (wcells zs (zs.length - 1)) ∧ w.ownsRow lo 35 2 (.slice Ab (zs.length - 1) cb) (zs.length - 1) (bcells zs (zs.length - 1))

theorem ShapeFrom.shape {w : World} {lo g : Nat} {zs : List Int} (h : ShapeFrom w lo g zs) : IsShape w w.heap.size g zs := by
  obtain ⟨_, As, Aw, Ab, cs, cw, cb, h1, h2, h3, h4⟩ := h
  exact ⟨blk_lt h1, As, Aw, Ab, cs, cw, cb, h1, own_cap h2, own_cap h3, own_cap h4, rd_of_own h2, rd_of_own h3, rd_of_own h4⟩

theorem Mid.from_ {w : World} {B g : Nat} {vs vw vb : Value} {zs : List Int} (h : Mid w B g vs vw vb (cnt zs) zs (zs.length - 1) (zs.length - 1)) : B ≤ g → ShapeFrom w B g zs := fun hg => by
  have h2 := h.sz
  obtain ⟨As, cs, rfl⟩ := own_slice h.sz
  obtain ⟨Aw, cw, rfl⟩ := own_slice h.ow
  obtain ⟨Ab, cb, rfl⟩ := own_slice h.ob
  exact ⟨hg, As, Aw, Ab, cs, cw, cb, h.blk, h2, h.ow, h.ob⟩

def MadeF (w : World) (zs : List Int) (e : Ending) (w' : World) : Prop :=
  Below w.heap.size w w' ∧ (shCode zs = 0 → ∃ g, e = .returned (.tuple #[.pointer (some ⟨g, 0, none⟩), .int .i64 0]) ∧ ShapeFrom w' w.heap.size g zs) ∧
    (shCode zs ≠ 0 → e = .returned (.tuple #[.pointer none, .int .i64 (shCode zs)]))
theorem MadeF.made {w : World} {zs : List Int} {e : Ending} {w' : World} (h : MadeF w zs e w') : Made w zs e w' :=
  ⟨h.1, fun h0 => let ⟨g, he, hs⟩ := h.2.1 h0; ⟨g, he, hs.1, hs.shape⟩, h.2.2⟩

theorem Tryd.infoR : (Tryd.prog.info? 35).map (fun i => (i.zero, i.size, i.bytes)) = some (some (.agg #[.int .i64 0, .int .i64 0]), 2, 16) := by kernel_rfl

theorem lo_bd (zs : List Int) (k : Nat) (hall : ∀ z ∈ zs, okSz z = true) (hl : zs.length ≤ 16) : 0 ≤ lo zs k ∧ lo zs k ≤ 17592202821632 := by
  have bc := cnt_bd (zs.take (k + 1)) (fun z hz => hall z (List.mem_of_mem_take hz))
  have bl : ((zs.take (k + 1)).length : Int) ≤ 16 := by have := List.length_take_le (k + 1) zs; have := List.length_take_le' (k + 1) zs; omega
  unfold lo
  omega

set_option maxHeartbeats 400000 in
theorem new_few (A : Option Addr) (cap : Nat) (zs : List Int) (w : World) (h2 : zs.length < 2 ∨ 16 < zs.length) (hm : zs.length ≤ 9223372036854775807) :
    Calls Tryd.prog 9 #[.slice A zs.length cap] w (MadeF w zs) := by
  have hcode : shCode zs = 5 := by unfold shCode; rw [if_pos h2]
  have Hcode := Lib.hid hcode
  clear hcode
  rcases h2 with h2 | h2
  all_goals
    go_enter Tryd.func9, Tryd.ntmps9
    go_wp2
    go_ret2
    exact ⟨Below.refl _ _, fun h => absurd (Hcode.out.symm.trans h) (by decide), fun _ => ret_pi Hcode.out.symm⟩

set_option maxHeartbeats 400000 in
theorem new_wrong (A : Option Addr) (cap : Nat) (zs : List Int) (w : World) (h2 : ¬ zs.length < 2) (h16 : ¬ 16 < zs.length) (hr : RdI w w.heap.size A zs) (hz : zs.all okSz = false) :
    Calls Tryd.prog 9 #[.slice A zs.length cap] w (MadeF w zs) := by
  have hcode : shCode zs = 5 := by unfold shCode; rw [if_neg (by omega), if_pos hz]
  have Hcode := Lib.hid hcode
  have C := Lib.hid (hasWrong_any A cap zs w hr (by omega))
  have HZ := Lib.hid hz
  clear hcode hz
  go_enter Tryd.func9, Tryd.ntmps9
  go_wp2_with (go_at_call 29; refine C.out.mono ?_; rintro e w' ⟨rfl, rfl⟩; rw [HZ.out])
  go_ret2
  exact ⟨Below.refl _ _, fun h => absurd (Hcode.out.symm.trans h) (by decide), fun _ => ret_pi Hcode.out.symm⟩

/-- A copy of a slice that has elements. -/
theorem clone_some (A : Option Addr) (cap : Nat) (zs : List Int) (w : World) (hr : RdI w w.heap.size A zs) (h0 : 0 < zs.length) (hl : zs.length ≤ 1000000000000) :
    Calls Tryd.prog 30 #[.slice A zs.length cap] w fun e w' => ∃ gs cs, e = .returned (.slice (some ⟨gs, 0, none⟩) zs.length cs) ∧ w'.ownsRow w.heap.size 3 1 (.slice (some ⟨gs, 0, none⟩) zs.length cs) zs.length (zs.map (Value.int .i64)) ∧ Below w.heap.size w w' := by
  obtain ⟨b, off, rfl, hb, hc⟩ := hr.at_ h0
  have hcl : ∀ j, j < zs.length → w.cell? ⟨b, off + j, none⟩ = some (.int .i64 (zs.getD j 0)) := fun j hj => by
    obtain ⟨z, hz⟩ := get_some zs j hj
    rw [hc j z hz]; simp [List.getD, hz]
  refine (Tryd.slices_Clone_int b off zs.length cap zs w (Nat.le_refl _) (by omega) hcl).mono ?_
  rintro e w' ⟨v, rfl, hown, _, hbw⟩
  rw [List.take_length] at hown
  obtain ⟨gs, cs, rfl, _⟩ := hown.form h0
  exact ⟨gs, cs, rfl, hown, hbw⟩

set_option linter.unusedSimpArgs false in
set_option maxRecDepth 100000 in
set_option maxHeartbeats 400000 in
theorem new_right (A : Option Addr) (cap : Nat) (zs : List Int) (w : World) (h2 : ¬ zs.length < 2) (h16 : ¬ 16 < zs.length) (hr : RdI w w.heap.size A zs) (hcap : zs.length ≤ cap) (hz : zs.all okSz = true) :
    Calls Tryd.prog 9 #[.slice A zs.length cap] w (MadeF w zs) := by
  have hall : ∀ z ∈ zs, okSz z = true := List.all_eq_true.1 hz
  have hcode : shCode zs = if 1048576 < cnt zs then 4 else 0 := by unfold shCode; rw [if_neg (by omega), if_neg (by rw [hz]; decide)]
  have Hcode := Lib.hid hcode
  have C := Lib.hid (hasWrong_any A cap zs w hr (by omega))
  have HZ := Lib.hid hz
  have Hall := Lib.hid hall
  clear hcode hz hall
  obtain ⟨i0, hi0, hz0, hz1, hz2⟩ := info_parts Tryd.infoR
  have I0 := Lib.hid hi0
  have I1 := Lib.hid hz0
  have I2 := Lib.hid hz1
  have I3 := Lib.hid hz2
  clear hi0 hz0 hz1 hz2
  have d1 : decide ((zs.length : Int) < 2) = false := by simp; omega
  have d2 : decide ((16 : Int) < (zs.length : Int)) = false := by simp; omega
  obtain ⟨b, off, rfl, hb, hc⟩ := hr.at_ (by omega)
  have CL := Lib.hid (clone_some _ cap zs w hr (by omega) (by omega))
  have Hc := Lib.hid hc
  clear hc
  go_enter Tryd.func9, Tryd.ntmps9
  go_wp2_with (first | (go_at_call 29; refine C.out.mono ?_; rintro e w' ⟨rfl, rfl⟩; rw [HZ.out]) | (go_at_call 30; refine CL.out.mono ?_; rintro e w1 ⟨gs, cs, rfl, hown, hbw⟩))
  go_loopw [30] (fun i wr => ∃ k : Nat, k ≤ zs.length - 1 ∧ i = .int .i64 k ∧ ∃ vw vb, Mid wr w.heap.size w1.heap.size (.slice (some ⟨gs, 0, none⟩) zs.length cs) vw vb (lo zs k) zs k k ∧ Below w.heap.size w wr)
    (fun i _ => zs.length - (intOf i).toNat)
  case atStart =>
    refine ⟨0, Nat.zero_le _, rfl, .slice none 0 0, .slice none 0 0, ⟨?_, ?_, ?_, World.ownsRow_nil _ _ _ _, World.ownsRow_nil _ _ _ _, .inl rfl, hbw.size⟩, (hbw.alloc hbw.size _).alloc (by simp; have := hbw.size; omega) _⟩
    · have hlo : lo zs 0 = 0 := by
        unfold lo
        match zs with
        | [] => rfl
        | _ :: _ => rfl
      rw [hlo]
      exact blk_alloc (heap_alloc_new w1 _) _
    · have := heap_alloc_new (w1.alloc (.cells #[.slice (some ⟨gs, 0, none⟩) zs.length cs, .slice none 0 0, .slice none 0 0, .int .i64 0] 58)) (.cells #[.pointer (some ⟨w1.heap.size, 0, none⟩)] 24)
      rw [World.size_alloc] at this
      exact this
    · exact (hown.alloc _).alloc _
  case round =>
    obtain ⟨k, hk, rfl, vw, vb, hM, hbr⟩ := hrel
    by_cases hlt : k < zs.length - 1
    · obtain ⟨x, hx⟩ := get_some zs k (by omega)
      obtain ⟨y, hy⟩ := get_some zs (k + 1) (by omega)
      have bx := okSz_iff.1 (Hall.out x (List.mem_of_getElem? hx))
      have byy := okSz_iff.1 (Hall.out y (List.mem_of_getElem? hy))
      have bm : 0 ≤ y * x ∧ y * x ≤ 1099511627776 := ⟨Int.mul_nonneg (by omega) (by omega), Int.mul_le_mul byy.2 bx.2 (by omega) (by omega)⟩
      have bl := lo_bd zs k Hall.out (by omega)
      have cA : wr.cell? ⟨b, off + 1 + k, none⟩ = some (.int .i64 y) := (hbr.cell (p := ⟨b, off + 1 + k, none⟩) hb).trans (by rw [Nat.add_assoc, Nat.add_comm 1 k]; exact Hc.out _ _ hy)
      have cB : wr.cell? ⟨b, off + k, none⟩ = some (.int .i64 x) := (hbr.cell (p := ⟨b, off + k, none⟩) hb).trans (Hc.out _ _ hx)
      have c5 : wr.cell? ⟨w1.heap.size + 1, 0, none⟩ = some (.pointer (some ⟨w1.heap.size, 0, none⟩)) := blk_cell hM.box 0
      have c6 : wr.cell? ⟨w1.heap.size, 1, none⟩ = some vw := blk_cell hM.blk 1
      have wp : IntKind.i64.wrap (y * x) = y * x := IntWalk.i64_in _ (by omega)
      have HX := Lib.hid hx
      have HY := Lib.hid hy
      have HM := Lib.hid hM
      clear hx hy hM
      have k0 : (0 : Int) ≤ (k : Int) := Int.natCast_nonneg _
      have k1 : (k : Int) < (zs.length : Int) := by omega
      go_wp2
      refine wp_region_but 17 (fun w' => w'.cell? ⟨w1.heap.size + 1, 0, none⟩ = some (.pointer (some ⟨w1.heap.size, 0, none⟩)) ∧ w'.cell? ⟨w1.heap.size, 1, none⟩ = some vw ∧ w'.cell? ⟨b, off + k, none⟩ = some (.int .i64 x)) (by kernel_rfl) ⟨c5, c6, cB⟩ (fun hHeld => ?_)
      refine AnyBut.take 0 (d := (some 35)) (v := ?_) rfl rfl (by kernel_rfl) (by kernel_rfl) (by kernel_rfl) (by kernel_rfl) (fun _ _ _ h => h) (by rfl) (by assumption) ?_ ?_
      rotate_left
      · (intro wx hSw; (try dsimp only at hSw); go_simp); all_goals with_reducible rfl
      try simp only [Act.put, List.setIfInBounds_toArray, List.set_cons_zero, List.set_cons_succ]
      refine AnyBut.take 1 (d := (some 36)) (v := ?_) rfl rfl (by kernel_rfl) (by kernel_rfl) (by kernel_rfl) (by kernel_rfl) (fun _ _ _ h => h) (by rfl) (by assumption) ?_ ?_
      rotate_left
      · (intro wx hSw; (try dsimp only at hSw); go_simp); all_goals with_reducible rfl
      try simp only [Act.put, List.setIfInBounds_toArray, List.set_cons_zero, List.set_cons_succ]
      refine AnyBut.take 2 (d := (some 37)) (v := ?_) rfl rfl (by kernel_rfl) (by kernel_rfl) (by kernel_rfl) (by kernel_rfl) (fun _ _ _ h => h) (by rfl) (by assumption) ?_ ?_
      rotate_left
      · (intro wx hSw; (try dsimp only at hSw); go_simp); all_goals with_reducible rfl
      try simp only [Act.put, List.setIfInBounds_toArray, List.set_cons_zero, List.set_cons_succ]
      refine AnyBut.take 3 (d := (some 38)) (v := ?_) rfl rfl (by kernel_rfl) (by kernel_rfl) (by kernel_rfl) (by kernel_rfl) (fun _ _ _ h => h) (by rfl) (by assumption) ?_ ?_
      rotate_left
      · (intro wx hSw; (try dsimp only at hSw); go_simp); all_goals with_reducible rfl
      try simp only [Act.put, List.setIfInBounds_toArray, List.set_cons_zero, List.set_cons_succ]
      refine AnyBut.take 4 (d := (some 39)) (v := ?_) rfl rfl (by kernel_rfl) (by kernel_rfl) (by kernel_rfl) (by kernel_rfl) (fun _ _ _ h => h) (by rfl) (by assumption) ?_ ?_
      rotate_left
      · (intro wx hSw; (try dsimp only at hSw); go_simp); all_goals with_reducible rfl
      try simp only [Act.put, List.setIfInBounds_toArray, List.set_cons_zero, List.set_cons_succ]
      refine AnyBut.take 5 (d := (some 40)) (v := ?_) rfl rfl (by kernel_rfl) (by kernel_rfl) (by kernel_rfl) (by kernel_rfl) (fun _ _ _ h => h) (by rfl) (by assumption) ?_ ?_
      rotate_left
      · (intro wx hSw; (try dsimp only at hSw); go_simp); all_goals with_reducible rfl
      try simp only [Act.put, List.setIfInBounds_toArray, List.set_cons_zero, List.set_cons_succ]
      refine AnyBut.take 6 (d := (some 41)) (v := ?_) rfl rfl (by kernel_rfl) (by kernel_rfl) (by kernel_rfl) (by kernel_rfl) (fun _ _ _ h => h) (by rfl) (by assumption) ?_ ?_
      rotate_left
      · (intro wx hSw; (try dsimp only at hSw); go_simp); all_goals with_reducible rfl
      try simp only [Act.put, List.setIfInBounds_toArray, List.set_cons_zero, List.set_cons_succ]
      refine AnyBut.take 7 (d := (some 42)) (v := ?_) rfl rfl (by kernel_rfl) (by kernel_rfl) (by kernel_rfl) (by kernel_rfl) (fun _ _ _ h => h) (by rfl) (by assumption) ?_ ?_
      rotate_left
      · (intro wx hSw; (try dsimp only at hSw); go_simp); all_goals with_reducible rfl
      try simp only [Act.put, List.setIfInBounds_toArray, List.set_cons_zero, List.set_cons_succ]
      refine AnyBut.take 8 (d := (some 43)) (v := ?_) rfl rfl (by kernel_rfl) (by kernel_rfl) (by kernel_rfl) (by kernel_rfl) (fun _ _ _ h => h) (by rfl) (by assumption) ?_ ?_
      rotate_left
      · (intro wx hSw; (try dsimp only at hSw); go_simp); all_goals with_reducible rfl
      try simp only [Act.put, List.setIfInBounds_toArray, List.set_cons_zero, List.set_cons_succ]
      refine AnyBut.take 9 (d := (some 44)) (v := ?_) rfl rfl (by kernel_rfl) (by kernel_rfl) (by kernel_rfl) (by kernel_rfl) (fun _ _ _ h => h) (by rfl) (by assumption) ?_ ?_
      rotate_left
      · (intro wx hSw; (try dsimp only at hSw); go_simp); all_goals with_reducible rfl
      try simp only [Act.put, List.setIfInBounds_toArray, List.set_cons_zero, List.set_cons_succ]
      refine AnyBut.take 10 (d := (some 45)) (v := ?_) rfl rfl (by kernel_rfl) (by kernel_rfl) (by kernel_rfl) (by kernel_rfl) (fun _ _ _ h => h) (by rfl) (by assumption) ?_ ?_
      rotate_left
      · (intro wx hSw; (try dsimp only at hSw); go_simp); all_goals with_reducible rfl
      try simp only [Act.put, List.setIfInBounds_toArray, List.set_cons_zero, List.set_cons_succ]
      refine AnyBut.take 11 (d := (some 46)) (v := ?_) rfl rfl (by kernel_rfl) (by kernel_rfl) (by kernel_rfl) (by kernel_rfl) (fun _ _ _ h => h) (by rfl) (by assumption) ?_ ?_
      rotate_left
      · (intro wx hSw; (try dsimp only at hSw); go_simp); all_goals with_reducible rfl
      try simp only [Act.put, List.setIfInBounds_toArray, List.set_cons_zero, List.set_cons_succ]
      refine AnyBut.step 12 (by kernel_rfl) rfl (by decide) (by rfl) (fun K hK => ?_)
      go_simp
      (with_reducible refine (next_any w1.heap.size (w1.heap.size + 1) (.slice (some ⟨gs, 0, none⟩) zs.length cs) vw vb (lo zs k) (y * x) _ ?_ ?_ ?_ ?_ ?_ ?_).mono ?_)
      · exact HM.out.blk
      · exact HM.out.box
      · omega
      · omega
      · omega
      · omega
      rintro e w2 ⟨rfl, hg2, hgr2⟩
      have M2 := Lib.hid ((HM.out.drew.next hg2 hgr2).alloc (.cells #[.int .i64 (lo zs k), .int .i64 (lo zs k + y * x)] 35))
      have hb2 : Below w.heap.size w w2 := (below_drew hbr).grown hgr2 hbr.size (fun q hq => by have := hbw.size; injection hq with hq; omega)
      have d5 : w2.cell? ⟨w1.heap.size + 1, 0, none⟩ = some (.pointer (some ⟨w1.heap.size, 0, none⟩)) := blk_cell (blk_grown HM.out.drew.box hgr2 (by simp)) 0
      have d6 : w2.cell? ⟨w1.heap.size, 1, none⟩ = some vw := blk_cell hg2 1
      have dB : w2.cell? ⟨b, off + k, none⟩ = some (.int .i64 x) := (hb2.cell (p := ⟨b, off + k, none⟩) hb).trans (Hc.out _ _ HX.out)
      have d7 := blk_cell M2.out.box 0
      have d8 := blk_cell M2.out.blk 1
      have d9 := ((hb2.alloc hb2.size (.cells #[.int .i64 (lo zs k), .int .i64 (lo zs k + y * x)] 35)).cell (p := ⟨b, off + k, none⟩) hb).trans (Hc.out _ _ HX.out)
      refine hK.out _ _ ⟨d5, d6, dB⟩ ?_
      clear hK K hg2 hHeld
      try simp only [Act.put, List.setIfInBounds_toArray, List.set_cons_zero, List.set_cons_succ]
      refine AnyBut.step 13 (by kernel_rfl) rfl (by decide) (by rfl) (fun K hK => ?_)
      go_simp
      refine hK.out _ _ ⟨d7, d8, d9⟩ ?_
      clear hK K
      try simp only [Act.put, List.setIfInBounds_toArray, List.set_cons_zero, List.set_cons_succ]
      refine AnyBut.step 14 (by kernel_rfl) rfl (by decide) (by rfl) (fun K hK => ?_)
      refine wp_append_lies _ _ _ _ rfl w.heap.size 35 i0 _ 2 16 Tryd.underlying38 I0.out I1.out I2.out I3.out rfl (by omega) vw k (wcells zs k) rfl M2.out.ow
         ⟨w2.heap.size, 0, none⟩ 1 1 [.int .i64 (lo zs k), .int .i64 (lo zs k + y * x)] rfl rfl (World.news_of_block (cs := #[.int .i64 (lo zs k), .int .i64 (lo zs k + y * x)]) (t := 35) (fr := (0, 0)) (heap_alloc_new w2 _)) (by simp [Value.oneCell'])
         (by omega) (by simp only [maxLen]; omega) (by omega) (by simp; have := hb2.size; omega) (w2.heap.size + 1) (by simp) ?_
      intro gg cap' w3 hown3 hgr3 hat3 hlt3
      have hm3 : wcells zs k ++ [.int .i64 (lo zs k), .int .i64 (lo zs k + y * x)] = wcells zs (k + 1) := by rw [wcells, mid_eq zs k x y HX.out HY.out]
      rw [hm3] at hown3
      have M3 := Lib.hid (M2.out.setW hown3 hgr3 (by rw [World.size_alloc]; exact hat3))
      have hb3 : Below w.heap.size w w3 := (hb2.alloc hb2.size _).grown hgr3 (by simp; have := hb2.size; omega) (fun q hq => (M2.out.ow.lt q hq).1)
      have e5 : w3.cell? ⟨w1.heap.size + 1, 0, none⟩ = some (.pointer (some ⟨w1.heap.size, 0, none⟩)) := blk_cell (blk_grown M2.out.box hgr3 (Ne.symm (own_ne M2.out.ow M2.out.box (by decide)))) 0
      have e6 : w3.cell? ⟨w1.heap.size, 1, none⟩ = some vw := blk_cell (M2.out.blkW hgr3) 1
      have f6 : w3.frozen? ⟨w1.heap.size, 1, none⟩ = false := blk_frozen (M2.out.blkW hgr3) 1
      have eB : w3.cell? ⟨b, off + k, none⟩ = some (.int .i64 x) := (hb3.cell (p := ⟨b, off + k, none⟩) hb).trans (Hc.out _ _ HX.out)
      have hb4 := hb3.setCell (p := ⟨w1.heap.size, 1, none⟩) hbw.size (.slice (some ⟨gg, 0, none⟩) (k + 1) cap')
      refine hK.out _ _ ⟨e5, e6, eB⟩ ?_
      clear hK K hm3 hown3 d5 d6 dB d7 d8 d9
      have hHeld := And.intro e5 (And.intro e6 eB)
      try simp only [Act.put, List.setIfInBounds_toArray, List.set_cons_zero, List.set_cons_succ]
      refine AnyBut.step 15 (by kernel_rfl) rfl (by decide) (by rfl) (fun K hK => ?_)
      go_simp
      refine hK.out _ _ hHeld ?_
      clear hK K
      try simp only [Act.put, List.setIfInBounds_toArray, List.set_cons_zero, List.set_cons_succ]
      refine AnyBut.step 16 (by kernel_rfl) rfl (by decide) (by rfl) (fun K hK => ?_)
      go_simp
      refine hK.out _ _ hHeld ?_
      clear hK K
      try simp only [Act.put, List.setIfInBounds_toArray, List.set_cons_zero, List.set_cons_succ]
      refine AnyBut.last (by kernel_rfl) (by kernel_rfl) rfl (by rfl) (fun K hK => ?_)
      go_simp
      refine hK.out _ _ ?_
      clear hK K hHeld
      clear hgr2 hgr3 hat3 hlt3 c5 c6 cA cB e5 e6 f6 eB HM M2 hb2 hb3
      go_wp2
      generalize w3.setCell ⟨w1.heap.size, 1, none⟩ (.slice (some ⟨gg, 0, none⟩) (k + 1) cap') = w4 at *
      have c5 : w4.cell? ⟨w1.heap.size + 1, 0, none⟩ = some (.pointer (some ⟨w1.heap.size, 0, none⟩)) := blk_cell M3.out.box 0
      have c6 : w4.cell? ⟨w1.heap.size, 2, none⟩ = some vb := blk_cell M3.out.blk 2
      refine wp_region_but 12 (fun w' => w'.cell? ⟨w1.heap.size + 1, 0, none⟩ = some (.pointer (some ⟨w1.heap.size, 0, none⟩)) ∧ w'.cell? ⟨w1.heap.size, 2, none⟩ = some vb) (by kernel_rfl) ⟨c5, c6⟩ (fun hHeld => ?_)
      refine AnyBut.take 0 (d := (some 52)) (v := ?_) rfl rfl (by kernel_rfl) (by kernel_rfl) (by kernel_rfl) (by kernel_rfl) (fun _ _ _ h => h) (by rfl) (by assumption) ?_ ?_
      rotate_left
      · (intro wx hSw; (try dsimp only at hSw); go_simp); all_goals with_reducible rfl
      try simp only [Act.put, List.setIfInBounds_toArray, List.set_cons_zero, List.set_cons_succ]
      refine AnyBut.take 1 (d := (some 53)) (v := ?_) rfl rfl (by kernel_rfl) (by kernel_rfl) (by kernel_rfl) (by kernel_rfl) (fun _ _ _ h => h) (by rfl) (by assumption) ?_ ?_
      rotate_left
      · (intro wx hSw; (try dsimp only at hSw); go_simp); all_goals with_reducible rfl
      try simp only [Act.put, List.setIfInBounds_toArray, List.set_cons_zero, List.set_cons_succ]
      refine AnyBut.take 2 (d := (some 54)) (v := ?_) rfl rfl (by kernel_rfl) (by kernel_rfl) (by kernel_rfl) (by kernel_rfl) (fun _ _ _ h => h) (by rfl) (by assumption) ?_ ?_
      rotate_left
      · (intro wx hSw; (try dsimp only at hSw); go_simp); all_goals with_reducible rfl
      try simp only [Act.put, List.setIfInBounds_toArray, List.set_cons_zero, List.set_cons_succ]
      refine AnyBut.take 3 (d := (some 55)) (v := ?_) rfl rfl (by kernel_rfl) (by kernel_rfl) (by kernel_rfl) (by kernel_rfl) (fun _ _ _ h => h) (by rfl) (by assumption) ?_ ?_
      rotate_left
      · (intro wx hSw; (try dsimp only at hSw); go_simp); all_goals with_reducible rfl
      try simp only [Act.put, List.setIfInBounds_toArray, List.set_cons_zero, List.set_cons_succ]
      refine AnyBut.take 4 (d := (some 56)) (v := ?_) rfl rfl (by kernel_rfl) (by kernel_rfl) (by kernel_rfl) (by kernel_rfl) (fun _ _ _ h => h) (by rfl) (by assumption) ?_ ?_
      rotate_left
      · (intro wx hSw; (try dsimp only at hSw); go_simp); all_goals with_reducible rfl
      try simp only [Act.put, List.setIfInBounds_toArray, List.set_cons_zero, List.set_cons_succ]
      refine AnyBut.take 5 (d := (some 57)) (v := ?_) rfl rfl (by kernel_rfl) (by kernel_rfl) (by kernel_rfl) (by kernel_rfl) (fun _ _ _ h => h) (by rfl) (by assumption) ?_ ?_
      rotate_left
      · (intro wx hSw; (try dsimp only at hSw); go_simp); all_goals with_reducible rfl
      try simp only [Act.put, List.setIfInBounds_toArray, List.set_cons_zero, List.set_cons_succ]
      refine AnyBut.take 6 (d := (some 58)) (v := ?_) rfl rfl (by kernel_rfl) (by kernel_rfl) (by kernel_rfl) (by kernel_rfl) (fun _ _ _ h => h) (by rfl) (by assumption) ?_ ?_
      rotate_left
      · (intro wx hSw; (try dsimp only at hSw); go_simp); all_goals with_reducible rfl
      try simp only [Act.put, List.setIfInBounds_toArray, List.set_cons_zero, List.set_cons_succ]
      refine AnyBut.step 7 (by kernel_rfl) rfl (by decide) (by rfl) (fun K hK => ?_)
      go_simp
      (with_reducible refine (next_any w1.heap.size (w1.heap.size + 1) (.slice (some ⟨gs, 0, none⟩) zs.length cs) (.slice (some ⟨gg, 0, none⟩) (k + 1) cap') vb (lo zs k + y * x) y _ ?_ ?_ ?_ ?_ ?_ ?_).mono ?_)
      · exact M3.out.blk
      · exact M3.out.box
      · omega
      · omega
      · omega
      · omega
      rintro e w5 ⟨rfl, hg5, hgr5⟩
      have M5 := Lib.hid ((M3.out.drew.next hg5 hgr5).alloc (.cells #[.int .i64 (lo zs k + y * x), .int .i64 (lo zs k + y * x + y)] 35))
      have hb5 : Below w.heap.size w w5 := (below_drew hb4).grown hgr5 hb4.size (fun q hq => by have := hbw.size; injection hq with hq; omega)
      have d5 : w5.cell? ⟨w1.heap.size + 1, 0, none⟩ = some (.pointer (some ⟨w1.heap.size, 0, none⟩)) := blk_cell (blk_grown M3.out.drew.box hgr5 (by simp)) 0
      have d6 : w5.cell? ⟨w1.heap.size, 2, none⟩ = some vb := blk_cell hg5 2
      have d7 := blk_cell M5.out.box 0
      have d8 := blk_cell M5.out.blk 2
      refine hK.out _ _ ⟨d5, d6⟩ ?_
      clear hK K hg5 hHeld
      try simp only [Act.put, List.setIfInBounds_toArray, List.set_cons_zero, List.set_cons_succ]
      refine AnyBut.step 8 (by kernel_rfl) rfl (by decide) (by rfl) (fun K hK => ?_)
      go_simp
      refine hK.out _ _ ⟨d7, d8⟩ ?_
      clear hK K
      try simp only [Act.put, List.setIfInBounds_toArray, List.set_cons_zero, List.set_cons_succ]
      refine AnyBut.step 9 (by kernel_rfl) rfl (by decide) (by rfl) (fun K hK => ?_)
      refine wp_append_lies _ _ _ _ rfl w.heap.size 35 i0 _ 2 16 Tryd.underlying38 I0.out I1.out I2.out I3.out rfl (by omega) vb k (bcells zs k) rfl M5.out.ob
         ⟨w5.heap.size, 0, none⟩ 1 1 [.int .i64 (lo zs k + y * x), .int .i64 (lo zs k + y * x + y)] rfl rfl (World.news_of_block (cs := #[.int .i64 (lo zs k + y * x), .int .i64 (lo zs k + y * x + y)]) (t := 35) (fr := (0, 0)) (heap_alloc_new w5 _)) (by simp [Value.oneCell'])
         (by omega) (by simp only [maxLen]; omega) (by omega) (by simp; have := hb5.size; omega) (w5.heap.size + 1) (by simp) ?_
      intro gb capb w6 hown6 hgr6 hat6 hlt6
      have hm6 : bcells zs k ++ [.int .i64 (lo zs k + y * x), .int .i64 (lo zs k + y * x + y)] = bcells zs (k + 1) := by rw [bcells, mid_eq zs k x y HX.out HY.out, lo_succ zs k x y HX.out HY.out]
      rw [hm6] at hown6
      have M6 := Lib.hid (M5.out.setB hown6 hgr6 (by rw [World.size_alloc]; exact hat6))
      have hb6 : Below w.heap.size w w6 := (hb5.alloc hb5.size _).grown hgr6 (by simp; have := hb5.size; omega) (fun q hq => (M5.out.ob.lt q hq).1)
      have e5 : w6.cell? ⟨w1.heap.size + 1, 0, none⟩ = some (.pointer (some ⟨w1.heap.size, 0, none⟩)) := blk_cell (blk_grown M5.out.box hgr6 (Ne.symm (own_ne M5.out.ob M5.out.box (by decide)))) 0
      have e6 : w6.cell? ⟨w1.heap.size, 2, none⟩ = some vb := blk_cell (M5.out.blkB hgr6) 2
      have f6 : w6.frozen? ⟨w1.heap.size, 2, none⟩ = false := blk_frozen (M5.out.blkB hgr6) 2
      have hb7 := hb6.setCell (p := ⟨w1.heap.size, 2, none⟩) hbw.size (.slice (some ⟨gb, 0, none⟩) (k + 1) capb)
      refine hK.out _ _ ⟨e5, e6⟩ ?_
      clear hK K hm6 hown6 d5 d6 d7 d8
      have hHeld := And.intro e5 e6
      try simp only [Act.put, List.setIfInBounds_toArray, List.set_cons_zero, List.set_cons_succ]
      refine AnyBut.step 10 (by kernel_rfl) rfl (by decide) (by rfl) (fun K hK => ?_)
      go_simp
      refine hK.out _ _ hHeld ?_
      clear hK K
      try simp only [Act.put, List.setIfInBounds_toArray, List.set_cons_zero, List.set_cons_succ]
      refine AnyBut.step 11 (by kernel_rfl) rfl (by decide) (by rfl) (fun K hK => ?_)
      go_simp
      refine hK.out _ _ hHeld ?_
      clear hK K
      try simp only [Act.put, List.setIfInBounds_toArray, List.set_cons_zero, List.set_cons_succ]
      refine AnyBut.last (by kernel_rfl) (by kernel_rfl) rfl (by rfl) (fun K hK => ?_)
      go_simp
      refine hK.out _ _ ?_
      clear hK K hHeld hgr5 hgr6 hat6 hlt6 e5 e6 f6 M5 hb5 hb6 wp bm c5 c6
      go_wp2
      go_roundw
      case rel => exact ⟨k + 1, by omega, by go_num, _, _, by rw [lo_succ zs k x y HX.out HY.out]; exact M6.out, hb7⟩
      case measure => simp [intOf]; omega
    · obtain rfl : k = zs.length - 1 := by omega
      have hlo : lo zs (zs.length - 1) = cnt zs := by unfold lo; rw [List.take_of_length_le (by omega)]
      rw [hlo] at hM
      have HS := Lib.hid hM.from_
      have c5 : wr.cell? ⟨w1.heap.size + 1, 0, none⟩ = some (.pointer (some ⟨w1.heap.size, 0, none⟩)) := blk_cell hM.box 0
      have c6 : wr.cell? ⟨w1.heap.size, 3, none⟩ = some (.int .i64 (cnt zs)) := blk_cell hM.blk 3
      clear hlo hM
      by_cases h4 : 1048576 < cnt zs
      · have hc4 : Hid (shCode zs = 4) := Lib.hid (by rw [Hcode.out, if_pos h4])
        go_wp2
        go_ret2
        exact ⟨hbr, fun h => absurd (hc4.out.symm.trans h) (by decide), fun _ => ret_pi hc4.out.symm⟩
      · have hc4 : Hid (shCode zs = 0) := Lib.hid (by rw [Hcode.out, if_neg h4])
        go_wp2
        go_ret2
        exact ⟨hbr, fun _ => ⟨w1.heap.size, rfl, HS.out hbw.size⟩, fun h => absurd hc4.out h⟩


/-- shape.New at every slice of sizes. -/
theorem newF_any (A : Option Addr) (cap : Nat) (zs : List Int) (w : World) (hr : RdI w w.heap.size A zs) (hcap : zs.length ≤ cap) (hm : zs.length ≤ 9223372036854775807) :
    Calls Tryd.prog 9 #[.slice A zs.length cap] w (MadeF w zs) := by
  by_cases h2 : zs.length < 2
  · exact new_few A cap zs w (.inl h2) hm
  by_cases h16 : 16 < zs.length
  · exact new_few A cap zs w (.inr h16) hm
  cases hz : zs.all okSz
  · exact new_wrong A cap zs w h2 h16 hr hz
  · exact new_right A cap zs w h2 h16 hr hcap hz

theorem new_any (A : Option Addr) (cap : Nat) (zs : List Int) (w : World) (hr : RdI w w.heap.size A zs) (hcap : zs.length ≤ cap) (hm : zs.length ≤ 9223372036854775807) :
    Calls Tryd.prog 9 #[.slice A zs.length cap] w (Made w zs) := (newF_any A cap zs w hr hcap hm).mono fun _ _ h => h.made

end Go.Proofs.YtjjoendjgiiknaaDoor
