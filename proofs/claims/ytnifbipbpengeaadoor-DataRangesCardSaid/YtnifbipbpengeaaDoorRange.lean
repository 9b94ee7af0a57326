/- Walk: data.Range. Conditions: none. -/
import Derived.Test.YtnifbipbpengeaaDoorRangeIter
import Derived.Test.YtnifbipbpengeaaDoorRegionIn
import Derived.Deep.RegionHeld3
import Derived.RegionTactic
namespace Go.Proofs.YtnifbipbpengeaaDoor
open Go.RowKit Go.Shelf
attribute [local go_sem] Oper.semAt_some

/-- The three results in their boxes, some numbers having come. -/
def Boxes (B : Nat) (pre : List Int) (W : World) : Prop :=
  Boxed W B 2 (.int .i64 (lowOf pre)) ∧ Boxed W (B + 1) 2 (.int .i64 (highOf pre)) ∧ Boxed W (B + 2) 4 (.bool (!pre.isEmpty))

theorem boxed_ne {W : World} {b : Nat} {t : TypeId} {v : Value} (h : Boxed W b t v) {row : Option Nat} {B : Nat} (hr : ∀ r, row = some r → B ≤ r ∧ ∃ o : Obj, W.heap[r]? = some o ∧ o.isCells = false) : some b ≠ row := fun e => by
  obtain ⟨_, o, ho, hc⟩ := hr b e.symm
  rw [show W.heap[b]? = _ from h] at ho
  cases ho
  cases hc
theorem boxes_own (B D : Nat) : OwnFrom D (Boxes B) := fun _ _ _ _ h hg hr =>
  ⟨h.1.kept hg (boxed_ne h.1 hr), h.2.1.kept hg (boxed_ne h.2.1 hr), h.2.2.kept hg (boxed_ne h.2.2 hr)⟩

theorem boxes_set {B : Nat} {W : World} {a b a' b' : Int} {c : Bool} (h : Boxed W B 2 (.int .i64 a) ∧ Boxed W (B + 1) 2 (.int .i64 b) ∧ Boxed W (B + 2) 4 (.bool c)) :
    Boxed ((W.setCell ⟨B, 0, none⟩ (.int .i64 a')).setCell ⟨B + 1, 0, none⟩ (.int .i64 b')) B 2 (.int .i64 a') ∧ Boxed ((W.setCell ⟨B, 0, none⟩ (.int .i64 a')).setCell ⟨B + 1, 0, none⟩ (.int .i64 b')) (B + 1) 2 (.int .i64 b') ∧ Boxed ((W.setCell ⟨B, 0, none⟩ (.int .i64 a')).setCell ⟨B + 1, 0, none⟩ (.int .i64 b')) (B + 2) 4 (.bool c) :=
  ⟨blk_far (h.1.set _) (by simp) _, Boxed.set _ (blk_far h.2.1 (by simp) _), blk_far (blk_far h.2.2 (by simp) _) (by simp) _⟩

theorem KeepsFrom.drewn {B : Nat} {W W' : World} (h : KeepsFrom B W W') : KeepsFrom B W W'.drew := ⟨h.size, h.same⟩
theorem KeepsBut.drewn {n₁ n₂ : Nat} {W W' : World} (h : KeepsBut n₁ n₂ W W') : KeepsBut n₁ n₂ W W'.drew := ⟨h.size, h.cells⟩
theorem keepsBut_set {B : Nat} {W : World} {b : Nat} (hb : B ≤ b ∧ b < B + 3) (v : Value) : KeepsBut B (B + 3) W (W.setCell ⟨b, 0, none⟩ v) :=
  ⟨by simp [World.setCell], fun c o u hc h => by
    have hne : c ≠ b := by omega
    exact (World.cell?_setCell_other W ⟨b, 0, none⟩ ⟨c, o, none⟩ v (fun e => hne (by injection e with e1; first | exact e1 | exact e1.symm))).trans h⟩

set_option maxRecDepth 100000 in
set_option maxHeartbeats 4000000 in
theorem dataRange_any (A : Option Addr) (ex : List Ex) (cap : Nat) (hm : ex.length ≤ 60) (hl : ∀ e ∈ ex, e.xs.length ≤ 600 ∧ e.ys.length ≤ 600) (w : World) (hr : RdE w w.heap.size A ex) :
    Calls Tryd.prog 6 #[.slice A ex.length cap] w fun e w' => e = .returned (rngVal (exAll ex)) ∧ Below w.heap.size w w' := by
  refine (callsIn_wide (n := 5)).1 ?_
  refine callsIn_of_wp_marks Tryd.func6 rfl trivial ?_ rfl
  simp only [Tryd.ntmps6, List.size_toArray, List.length_cons, List.length_nil, Nat.reduceAdd, Nat.reduceSub, Array.replicate_succ, Array.replicate_zero, List.push_toArray, List.append_toArray, List.nil_append, List.cons_append]
  gi_wp2_with fail
  refine ⟨trivial, (callsIn_wide.2 (numbers_any A ex.length cap _)).mono ?_⟩
  rintro e w1 ⟨rfl, rfl⟩
  gi_wp2_with fail
  obtain ⟨w0, hw0⟩ : ∃ w0, (((w.alloc (.cells #[.int .i64 0] 2)).alloc (.cells #[.int .i64 0] 2)).alloc (.cells #[.bool false] 4)).alloc (.cells #[.slice A ex.length cap] 22) = w0 := ⟨_, rfl⟩
  have hs0 : w0.heap.size = w.heap.size + 4 := by rw [← hw0]; simp
  have hB0 : Below w.heap.size w w0 := by rw [← hw0]; exact ((((Below.refl _ _).alloc (Nat.le_refl _) _).alloc (by simp) _).alloc (by simp; omega) _).alloc (by simp; omega) _
  have hbn : w0.cell? ⟨w.heap.size + 3, 0, none⟩ = some (.slice A ex.length cap) := by
    rw [← hw0]
    have h := (Boxed.new (((w.alloc (.cells #[.int .i64 0] 2)).alloc (.cells #[.int .i64 0] 2)).alloc (.cells #[.bool false] 4)) 22 (.slice A ex.length cap)).cell
    simpa using h
  have hbx : Boxes w.heap.size [] w0 := by
    rw [← hw0]
    have h1 := Boxed.new w 2 (.int .i64 0)
    have h2 := Boxed.new (w.alloc (.cells #[.int .i64 0] 2)) 2 (.int .i64 0)
    have h3 := Boxed.new ((w.alloc (.cells #[.int .i64 0] 2)).alloc (.cells #[.int .i64 0] 2)) 4 (.bool false)
    simp only [World.size_alloc] at h2 h3
    exact ⟨((h1.alloc _).alloc _).alloc _, (h2.alloc _).alloc _, h3.alloc _⟩
  rw [hw0]
  clear hw0
  refine wpIn_rangeFunc_ownG rfl (by omega) (gf := 11) (lb := #[.pointer (some ⟨w.heap.size + 3, 0, none⟩)]) (encs := fun x : Int => #[.int .i64 x]) (Kp := KeepsBut w.heap.size (w.heap.size + 3)) (S := fun ys => ys = exAll ex) (Sp := fun pre => pre <+: exAll ex) (N := (exAll ex).length) (w0 := w0) rfl trivial (enters_of Tryd.func11 (by kernel_rfl) rfl)
    (fun l J Jx W hW hJ _ hY h0 => nums1_in 4 l (w.heap.size + 3) w.heap.size (w.heap.size + 3) W.heap.size A ex cap hm hl J Jx hJ hY W ((hW.cell (p := ⟨w.heap.size + 3, 0, none⟩) (by show w.heap.size + 3 < _; omega)).trans hbn) ((hr.below hB0).below (hW.mono (by omega))) (by omega) (by have := hW.size; omega) h0)
    (fun h k => h.trans k) (fun W l o o' _ h hc _ => KeepsBut.put W l o o' h hc) (Below.refl _ _) (fun _ => rfl)
    (fun pre W => Boxes w.heap.size pre W ∧ Below w.heap.size w W) (fun _ _ _ => False)
    (OwnFrom.and (boxes_own _ _) (ownFrom_below (Nat.le_refl _) (by omega))) (fun _ _ _ _ _ hs _ _ => hs) ⟨hbx, hB0⟩
    (fun x => { tmps := #[.slice A ex.length cap, undef, .pointer (some ⟨w.heap.size, 0, none⟩), .pointer (some ⟨w.heap.size + 1, 0, none⟩), .pointer (some ⟨w.heap.size + 2, 0, none⟩), .int .i64 x, .slice A ex.length cap, .func (.func 11) #[] #[.pointer (some ⟨w.heap.size + 3, 0, none⟩)], .int .i64 x, undef, undef, undef, undef, undef, undef, undef, undef, undef, undef, undef, undef, undef], defers := [] }) ?assign ?body ?done ?stop
  case assign =>
    intro l x W K hK
    gi_wp2
    exact hK
  case body =>
    rintro l pre x W ⟨⟨hb1, hb2, hb3⟩, hB⟩ _
    have c1 := hb1.cell
    have c2 := hb2.cell
    have c3 := hb3.cell
    have d1 := hb1.frozen
    have d2 := hb2.frozen
    have d3 := hb3.frozen
    cases pre with
    | nil =>
      gi_wp2_with fail
      have k1 : Boxed (((W.setCell ⟨w.heap.size, 0, none⟩ (.int .i64 x)).setCell ⟨w.heap.size + 1, 0, none⟩ (.int .i64 x)).setCell ⟨w.heap.size + 2, 0, none⟩ (.bool true)) w.heap.size 2 (.int .i64 x) := blk_far (blk_far (hb1.set _) (by simp) _) (by simp) _
      have k2 : Boxed (((W.setCell ⟨w.heap.size, 0, none⟩ (.int .i64 x)).setCell ⟨w.heap.size + 1, 0, none⟩ (.int .i64 x)).setCell ⟨w.heap.size + 2, 0, none⟩ (.bool true)) (w.heap.size + 1) 2 (.int .i64 x) := blk_far (Boxed.set _ (blk_far hb2 (by simp) _)) (by simp) _
      have k3 : Boxed (((W.setCell ⟨w.heap.size, 0, none⟩ (.int .i64 x)).setCell ⟨w.heap.size + 1, 0, none⟩ (.int .i64 x)).setCell ⟨w.heap.size + 2, 0, none⟩ (.bool true)) (w.heap.size + 2) 4 (.bool true) := Boxed.set _ (blk_far (blk_far hb3 (by simp) _) (by simp) _)
      have HKP := Lib.hid (show KeepsBut w.heap.size (w.heap.size + 3) W (((W.setCell ⟨w.heap.size, 0, none⟩ (.int .i64 x)).setCell ⟨w.heap.size + 1, 0, none⟩ (.int .i64 x)).setCell ⟨w.heap.size + 2, 0, none⟩ (.bool true)) from ((keepsBut_set (by omega) _).trans (keepsBut_set (by omega) _)).trans (keepsBut_set (by omega) _))
      have HKF := Lib.hid (show KeepsOthers W (((W.setCell ⟨w.heap.size, 0, none⟩ (.int .i64 x)).setCell ⟨w.heap.size + 1, 0, none⟩ (.int .i64 x)).setCell ⟨w.heap.size + 2, 0, none⟩ (.bool true)) from ((KeepsOthers.setCell _ _ _).trans (KeepsOthers.setCell _ _ _)).trans (KeepsOthers.setCell _ _ _))
      have HBW := Lib.hid (((hB.setCell (p := ⟨w.heap.size, 0, none⟩) (Nat.le_refl _) (.int .i64 x)).setCell (p := ⟨w.heap.size + 1, 0, none⟩) (by simp) (.int .i64 x)).setCell (p := ⟨w.heap.size + 2, 0, none⟩) (by simp) (.bool true))
      clear hb1 hb2 hb3 c1 c2 c3 d1 d2 d3 hB
      generalize (((W.setCell ⟨w.heap.size, 0, none⟩ (.int .i64 x)).setCell ⟨w.heap.size + 1, 0, none⟩ (.int .i64 x)).setCell ⟨w.heap.size + 2, 0, none⟩ (.bool true)) = W1 at *
      have c1 := k1.cell
      have c2 := k2.cell
      have d1 := k1.frozen
      have d2 := k2.frozen
      have HK := Lib.hid (And.intro k1 (And.intro k2 k3))
      clear k1 k2 k3
      refine wpIn_region_but 7 (fun w' => w'.cell? ⟨w.heap.size + 1, 0, none⟩ = some (.int .i64 x)) (by kernel_rfl) (noDefer_of (by decide)) (by rintro ⟨_, _, h⟩; exact h) c2 (fun hHeld => ?_)
      refine AnyBut.take 1 (d := (some 14)) (v := ?_) rfl rfl (by kernel_rfl) (by kernel_rfl) (by kernel_rfl) (by kernel_rfl) (fun _ _ _ h => h) (by rfl) (by assumption) ?_ ?_
      rotate_left
      · (intro wx hSw; (try dsimp only at hSw); go_simp); all_goals with_reducible rfl
      try simp only [Act.put, List.setIfInBounds_toArray, List.set_cons_zero, List.set_cons_succ]
      refine AnyBut.take 4 (d := (some 17)) (v := ?_) rfl rfl (by kernel_rfl) (by kernel_rfl) (by kernel_rfl) (by kernel_rfl) (fun _ _ _ h => h) (by rfl) (by assumption) ?_ ?_
      rotate_left
      · (intro wx hSw; (try dsimp only at hSw); go_simp); all_goals with_reducible rfl
      try simp only [Act.put, List.setIfInBounds_toArray, List.set_cons_zero, List.set_cons_succ]
      refine AnyBut.take 3 (d := (some 16)) (v := ?_) rfl rfl (by kernel_rfl) (by kernel_rfl) (by kernel_rfl) (by kernel_rfl) (fun _ _ _ h => h) (by rfl) (by assumption) ?_ ?_
      rotate_left
      · (intro wx hSw; (try dsimp only at hSw); go_simp); all_goals with_reducible rfl
      try simp only [Act.put, List.setIfInBounds_toArray, List.set_cons_zero, List.set_cons_succ]
      refine AnyBut.take 5 (d := (some 18)) (v := ?_) rfl rfl (by kernel_rfl) (by kernel_rfl) (by kernel_rfl) (by kernel_rfl) (fun _ _ _ h => h) (by rfl) (by assumption) ?_ ?_
      rotate_left
      · (intro wx hSw; (try dsimp only at hSw); go_simp); all_goals with_reducible rfl
      try simp only [Act.put, List.setIfInBounds_toArray, List.set_cons_zero, List.set_cons_succ]
      clear hHeld
      refine AnyBut.step 0 (by kernel_rfl) rfl (by decide) (by rfl) (fun K hK => ?_)
      go_simp
      refine hK.out _ _ c2 ?_
      clear hK K
      try simp only [Act.put, List.setIfInBounds_toArray, List.set_cons_zero, List.set_cons_succ]
      refine AnyBut.step 2 (by kernel_rfl) rfl (by decide) (by rfl) (fun K hK => ?_)
      go_simp
      refine hK.out _ _ c2 ?_
      clear hK K
      try simp only [Act.put, List.setIfInBounds_toArray, List.set_cons_zero, List.set_cons_succ]
      refine AnyBut.step 6 (by kernel_rfl) rfl (by decide) (by rfl) (fun K hK => ?_)
      go_simp
      refine hK.out _ _ (blk_cell (blk_far HK.out.2.1 (by simp) _) 0) ?_
      clear hK K
      try simp only [Act.put, List.setIfInBounds_toArray, List.set_cons_zero, List.set_cons_succ]
      have e1 : (W1.setCell ⟨w.heap.size, 0, none⟩ (.int .i64 x)).frozen? ⟨w.heap.size + 1, 0, none⟩ = false := blk_frozen (blk_far HK.out.2.1 (by simp) _) 0
      have e2 : (W1.setCell ⟨w.heap.size, 0, none⟩ (.int .i64 x)).cell? ⟨w.heap.size + 1, 0, none⟩ = some (.int .i64 x) := blk_cell (blk_far HK.out.2.1 (by simp) _) 0
      refine AnyBut.last (by kernel_rfl) (by kernel_rfl) rfl (by rfl) (fun K hK => ?_)
      go_simp
      refine hK.out _ _ ?_
      clear hK K
      have hb := boxes_set (a' := x) (b' := x) HK.out
      refine ⟨KeepsFrom.drewn (KeepsOthers.from ((HKF.out.trans (KeepsOthers.setCell _ _ _)).trans (KeepsOthers.setCell _ _ _)) _), KeepsBut.drewn (KeepsBut.trans HKP.out ((keepsBut_set (B := w.heap.size) (b := w.heap.size) (by omega) _).trans (keepsBut_set (B := w.heap.size) (b := w.heap.size + 1) (by omega) _))), ⟨hb.1, hb.2.1, hb.2.2⟩, below_drew ((HBW.out.setCell (p := ⟨w.heap.size, 0, none⟩) (Nat.le_refl _) _).setCell (p := ⟨w.heap.size + 1, 0, none⟩) (by simp) _)⟩
    | cons z r =>
      have HLO := Lib.hid (show lowOf (z :: r ++ [x]) = if x < lowOf (z :: r) then x else lowOf (z :: r) by rw [lowOf_snoc (by simp)]; split <;> omega)
      have HHI := Lib.hid (show highOf (z :: r ++ [x]) = if highOf (z :: r) < x then x else highOf (z :: r) by rw [highOf_snoc (by simp)]; split <;> omega)
      have c3 : W.cell? ⟨w.heap.size + 2, 0, none⟩ = some (.bool true) := hb3.cell
      have k3 : Boxed W (w.heap.size + 2) 4 (.bool true) := hb3
      generalize lowOf (z :: r) = lo at *
      generalize highOf (z :: r) = hi at *
      have HKP := Lib.hid (KeepsBut.refl w.heap.size (w.heap.size + 3) W)
      have HKF := Lib.hid (KeepsOthers.refl W)
      have HBW := Lib.hid hB
      have k1 := hb1
      have k2 := hb2
      clear hb1 hb2 hb3 hB
      gi_wp2_with fail
      clear c1 c2 c3 d1 d2 d3
      obtain ⟨W1, hW1⟩ : ∃ W1, W1 = W := ⟨_, rfl⟩
      rw [← hW1] at k1 k2 k3 HBW ⊢
      have HKP : Hid (KeepsBut w.heap.size (w.heap.size + 3) W W1) := hW1 ▸ HKP
      have HKF : Hid (KeepsOthers W W1) := hW1 ▸ HKF
      clear hW1
      have c1 := k1.cell
      have c2 := k2.cell
      have d1 := k1.frozen
      have d2 := k2.frozen
      have HK := Lib.hid (And.intro k1 (And.intro k2 k3))
      clear k1 k2 k3
      refine wpIn_region_but 7 (fun w' => w'.cell? ⟨w.heap.size + 1, 0, none⟩ = some (.int .i64 hi)) (by kernel_rfl) (noDefer_of (by decide)) (by rintro ⟨_, _, h⟩; exact h) c2 (fun hHeld => ?_)
      refine AnyBut.take 1 (d := (some 14)) (v := ?_) rfl rfl (by kernel_rfl) (by kernel_rfl) (by kernel_rfl) (by kernel_rfl) (fun _ _ _ h => h) (by rfl) (by assumption) ?_ ?_
      rotate_left
      · (intro wx hSw; (try dsimp only at hSw); go_simp); all_goals with_reducible rfl
      try simp only [Act.put, List.setIfInBounds_toArray, List.set_cons_zero, List.set_cons_succ]
      refine AnyBut.take 4 (d := (some 17)) (v := ?_) rfl rfl (by kernel_rfl) (by kernel_rfl) (by kernel_rfl) (by kernel_rfl) (fun _ _ _ h => h) (by rfl) (by assumption) ?_ ?_
      rotate_left
      · (intro wx hSw; (try dsimp only at hSw); go_simp); all_goals with_reducible rfl
      try simp only [Act.put, List.setIfInBounds_toArray, List.set_cons_zero, List.set_cons_succ]
      refine AnyBut.take 3 (d := (some 16)) (v := ?_) rfl rfl (by kernel_rfl) (by kernel_rfl) (by kernel_rfl) (by kernel_rfl) (fun _ _ _ h => h) (by rfl) (by assumption) ?_ ?_
      rotate_left
      · (intro wx hSw; (try dsimp only at hSw); go_simp); all_goals with_reducible rfl
      try simp only [Act.put, List.setIfInBounds_toArray, List.set_cons_zero, List.set_cons_succ]
      refine AnyBut.take 5 (d := (some 18)) (v := ?_) rfl rfl (by kernel_rfl) (by kernel_rfl) (by kernel_rfl) (by kernel_rfl) (fun _ _ _ h => h) (by rfl) (by assumption) ?_ ?_
      rotate_left
      · (intro wx hSw; (try dsimp only at hSw); go_simp); all_goals with_reducible rfl
      try simp only [Act.put, List.setIfInBounds_toArray, List.set_cons_zero, List.set_cons_succ]
      clear hHeld
      refine AnyBut.step 0 (by kernel_rfl) rfl (by decide) (by rfl) (fun K hK => ?_)
      go_simp
      refine hK.out _ _ c2 ?_
      clear hK K
      try simp only [Act.put, List.setIfInBounds_toArray, List.set_cons_zero, List.set_cons_succ]
      refine AnyBut.step 2 (by kernel_rfl) rfl (by decide) (by rfl) (fun K hK => ?_)
      go_simp
      refine hK.out _ _ c2 ?_
      clear hK K
      try simp only [Act.put, List.setIfInBounds_toArray, List.set_cons_zero, List.set_cons_succ]
      refine AnyBut.step 6 (by kernel_rfl) rfl (by decide) (by rfl) (fun K hK => ?_)
      go_simp
      refine hK.out _ _ (blk_cell (blk_far HK.out.2.1 (by simp) _) 0) ?_
      clear hK K
      try simp only [Act.put, List.setIfInBounds_toArray, List.set_cons_zero, List.set_cons_succ]
      have e1 : (W1.setCell ⟨w.heap.size, 0, none⟩ (.int .i64 (if x < lo then x else lo))).frozen? ⟨w.heap.size + 1, 0, none⟩ = false := blk_frozen (blk_far HK.out.2.1 (by simp) _) 0
      have e2 : (W1.setCell ⟨w.heap.size, 0, none⟩ (.int .i64 (if x < lo then x else lo))).cell? ⟨w.heap.size + 1, 0, none⟩ = some (.int .i64 hi) := blk_cell (blk_far HK.out.2.1 (by simp) _) 0
      refine AnyBut.last (by kernel_rfl) (by kernel_rfl) rfl (by rfl) (fun K hK => ?_)
      go_simp
      refine hK.out _ _ ?_
      clear hK K
      have hb := boxes_set (a' := (if x < lo then x else lo)) (b' := (if hi < x then x else hi)) HK.out
      refine ⟨KeepsFrom.drewn (KeepsOthers.from ((HKF.out.trans (KeepsOthers.setCell _ _ _)).trans (KeepsOthers.setCell _ _ _)) _), KeepsBut.drewn (KeepsBut.trans HKP.out ((keepsBut_set (B := w.heap.size) (b := w.heap.size) (by omega) _).trans (keepsBut_set (B := w.heap.size) (b := w.heap.size + 1) (by omega) _))), ⟨by rw [HLO.out]; exact hb.1, by rw [HHI.out]; exact hb.2.1, hb.2.2⟩, below_drew ((HBW.out.setCell (p := ⟨w.heap.size, 0, none⟩) (Nat.le_refl _) _).setCell (p := ⟨w.heap.size + 1, 0, none⟩) (by simp) _)⟩
  case done =>
    rintro D ys W hD rfl ⟨⟨hb1, hb2, hb3⟩, hB⟩ hK
    have HLO := Lib.hid (show rngVal (exAll ex) = .tuple #[.int .i64 (lowOf (exAll ex)), .int .i64 (highOf (exAll ex)), .bool (!(exAll ex).isEmpty)] from rfl)
    generalize lowOf (exAll ex) = lo at *
    generalize highOf (exAll ex) = hi at *
    generalize (!(exAll ex).isEmpty) = ok at *
    have c1 := hb1.cell
    have c2 := hb2.cell
    have c3 : W.cell? ⟨w.heap.size + 1 + 1, 0, none⟩ = _ := hb3.cell
    have d1 := hb1.frozen
    have d2 := hb2.frozen
    have d3 : W.frozen? ⟨w.heap.size + 1 + 1, 0, none⟩ = _ := hb3.frozen
    gi_wp2_with fail
    refine wpIn_wide.2 (wp_region_noPanic ?_)
    refine wp_region_but 5 (fun w' => w'.cell? ⟨w.heap.size, 0, none⟩ = some (.int .i64 lo) ∧ w'.cell? ⟨w.heap.size + 1, 0, none⟩ = some (.int .i64 hi) ∧ w'.cell? ⟨w.heap.size + 1 + 1, 0, none⟩ = some (.bool ok)) (by kernel_rfl) ⟨c1, c2, c3⟩ (fun hHeld => ?_)
    refine AnyBut.take 0 (d := (some 19)) (v := ?_) rfl rfl (by kernel_rfl) (by kernel_rfl) (by kernel_rfl) (by kernel_rfl) (fun _ _ _ h => h) (by rfl) (by assumption) ?_ ?_
    rotate_left
    · (intro wx hSw; (try dsimp only at hSw); go_simp); all_goals with_reducible rfl
    try simp only [Act.put, List.setIfInBounds_toArray, List.set_cons_zero, List.set_cons_succ]
    refine AnyBut.take 1 (d := (some 20)) (v := ?_) rfl rfl (by kernel_rfl) (by kernel_rfl) (by kernel_rfl) (by kernel_rfl) (fun _ _ _ h => h) (by rfl) (by assumption) ?_ ?_
    rotate_left
    · (intro wx hSw; (try dsimp only at hSw); go_simp); all_goals with_reducible rfl
    try simp only [Act.put, List.setIfInBounds_toArray, List.set_cons_zero, List.set_cons_succ]
    refine AnyBut.take 2 (d := (some 21)) (v := ?_) rfl rfl (by kernel_rfl) (by kernel_rfl) (by kernel_rfl) (by kernel_rfl) (fun _ _ _ h => h) (by rfl) (by assumption) ?_ ?_
    rotate_left
    · (intro wx hSw; (try dsimp only at hSw); go_simp); all_goals with_reducible rfl
    try simp only [Act.put, List.setIfInBounds_toArray, List.set_cons_zero, List.set_cons_succ]
    clear hHeld
    have q1 : Boxed (W.setCell ⟨w.heap.size, 0, none⟩ (.int .i64 lo)) w.heap.size 2 (.int .i64 lo) := hb1.set _
    have q2 : Boxed (W.setCell ⟨w.heap.size, 0, none⟩ (.int .i64 lo)) (w.heap.size + 1) 2 (.int .i64 hi) := blk_far hb2 (by simp) _
    have q3 : Boxed (W.setCell ⟨w.heap.size, 0, none⟩ (.int .i64 lo)) (w.heap.size + 1 + 1) 4 (.bool ok) := blk_far hb3 (by simp) _
    have r1 : Boxed ((W.setCell ⟨w.heap.size, 0, none⟩ (.int .i64 lo)).setCell ⟨w.heap.size + 1, 0, none⟩ (.int .i64 hi)) w.heap.size 2 (.int .i64 lo) := blk_far q1 (by simp) _
    have r2 : Boxed ((W.setCell ⟨w.heap.size, 0, none⟩ (.int .i64 lo)).setCell ⟨w.heap.size + 1, 0, none⟩ (.int .i64 hi)) (w.heap.size + 1) 2 (.int .i64 hi) := q2.set _
    have r3 : Boxed ((W.setCell ⟨w.heap.size, 0, none⟩ (.int .i64 lo)).setCell ⟨w.heap.size + 1, 0, none⟩ (.int .i64 hi)) (w.heap.size + 1 + 1) 4 (.bool ok) := blk_far q3 (by simp) _
    refine AnyBut.step 3 (by kernel_rfl) rfl (by decide) (by rfl) (fun K hK => ?_)
    go_simp
    refine hK.out _ _ ⟨q1.cell, q2.cell, q3.cell⟩ ?_
    clear hK K
    try simp only [Act.put, List.setIfInBounds_toArray, List.set_cons_zero, List.set_cons_succ]
    have f2 := q2.cell
    have g2 := q2.frozen
    refine AnyBut.step 4 (by kernel_rfl) rfl (by decide) (by rfl) (fun K hK => ?_)
    go_simp
    refine hK.out _ _ ⟨r1.cell, r2.cell, r3.cell⟩ ?_
    clear hK K
    try simp only [Act.put, List.setIfInBounds_toArray, List.set_cons_zero, List.set_cons_succ]
    have f3 := r3.cell
    have g3 := r3.frozen
    refine AnyBut.last (by kernel_rfl) (by kernel_rfl) rfl (by rfl) (fun K hK => ?_)
    go_simp
    refine hK.out _ _ ?_
    clear hK K
    refine NoPanic.normal ?_
    gi_wp2_with fail
    have s1 : Boxed (((W.setCell ⟨w.heap.size, 0, none⟩ (.int .i64 lo)).setCell ⟨w.heap.size + 1, 0, none⟩ (.int .i64 hi)).setCell ⟨w.heap.size + 1 + 1, 0, none⟩ (.bool ok)) w.heap.size 2 (.int .i64 lo) := blk_far r1 (by simp; omega) _
    have s2 : Boxed (((W.setCell ⟨w.heap.size, 0, none⟩ (.int .i64 lo)).setCell ⟨w.heap.size + 1, 0, none⟩ (.int .i64 hi)).setCell ⟨w.heap.size + 1 + 1, 0, none⟩ (.bool ok)) (w.heap.size + 1) 2 (.int .i64 hi) := blk_far r2 (by simp) _
    have s3 : Boxed (((W.setCell ⟨w.heap.size, 0, none⟩ (.int .i64 lo)).setCell ⟨w.heap.size + 1, 0, none⟩ (.int .i64 hi)).setCell ⟨w.heap.size + 1 + 1, 0, none⟩ (.bool ok)) (w.heap.size + 1 + 1) 4 (.bool ok) := r3.set _
    have s4 : (((W.setCell ⟨w.heap.size, 0, none⟩ (.int .i64 lo)).setCell ⟨w.heap.size + 1, 0, none⟩ (.int .i64 hi)).setCell ⟨w.heap.size + 1 + 1, 0, none⟩ (.bool ok)).heap[D]? = some (.deferred (some [])) :=
      (((KeepsOthers.setCell _ _ _).trans (KeepsOthers.setCell _ _ _)).trans (KeepsOthers.setCell _ _ _)).same D _ hK rfl
    have s5 := ((hB.setCell (p := ⟨w.heap.size, 0, none⟩) (Nat.le_refl _) (.int .i64 lo)).setCell (p := ⟨w.heap.size + 1, 0, none⟩) (by simp) (.int .i64 hi)).setCell (p := ⟨w.heap.size + 1 + 1, 0, none⟩) (by simp; omega) (.bool ok)
    have s6 := belowK_b (w := w) (Nat.le_refl w.heap.size) _ D _ (.deferred none) (by omega) s4 rfl rfl
    clear hb1 hb2 hb3 c1 c2 c3 d1 d2 d3 q1 q2 q3 r1 r2 r3 f2 g2 f3 g3 hK hB
    generalize ((W.setCell ⟨w.heap.size, 0, none⟩ (.int .i64 lo)).setCell ⟨w.heap.size + 1, 0, none⟩ (.int .i64 hi)).setCell ⟨w.heap.size + 1 + 1, 0, none⟩ (.bool ok) = W3 at *
    have t1 : (W3.drew.putObj D (.deferred none)).cell? ⟨w.heap.size, 0, none⟩ = _ := (s1.kept (grownBy_putObj' W3 D (.deferred none)) (fun e => by cases e; rw [show W3.heap[w.heap.size]? = _ from s1] at s4; cases s4)).cell
    have t2 : (W3.drew.putObj D (.deferred none)).cell? ⟨w.heap.size + 1, 0, none⟩ = _ := (s2.kept (grownBy_putObj' W3 D (.deferred none)) (fun e => by cases e; rw [show W3.heap[w.heap.size + 1]? = _ from s2] at s4; cases s4)).cell
    have t3 : (W3.drew.putObj D (.deferred none)).cell? ⟨w.heap.size + 1 + 1, 0, none⟩ = _ := (s3.kept (grownBy_putObj' W3 D (.deferred none)) (fun e => by cases e; rw [show W3.heap[w.heap.size + 1 + 1]? = _ from s3] at s4; cases s4)).cell
    have hend : Below w.heap.size w (W3.drew.putObj D (.deferred none)) := ⟨(s5.trans s6).os, (s5.trans s6).tape, (s5.trans s6).output, (s5.trans s6).size, (s5.trans s6).block⟩
    refine ⟨by simp, .inl ⟨_, _, rfl, run_takeDeferred (w := W3.drew) s4, ?_⟩⟩
    generalize W3.drew.putObj D (.deferred none) = W4 at t1 t2 t3 hend ⊢
    exact ⟨.tuple #[.int .i64 lo, .int .i64 hi, .bool ok], by simp [results, Tryd.results6, t1, t2, t3, go_sem], by rw [HLO.out], hend⟩
  case stop =>
    rintro D c pre W _ _ h _
    exact h.elim

end Go.Proofs.YtnifbipbpengeaaDoor
