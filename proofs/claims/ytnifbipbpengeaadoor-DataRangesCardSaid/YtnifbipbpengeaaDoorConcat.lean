/- Walks: slices.Grow of the nil slice, slices.Concat of two rows of numbers. Conditions: none. -/
import Derived.Test.YtnifbipbpengeaaDoorAppend
import Derived.Lib.AppendZeros
import Derived.Lib.SliceRun
namespace Go.Proofs.YtnifbipbpengeaaDoor
open Go.RowKit

theorem infoI64 : (Tryd.prog.info? 2).map (fun i => (i.zero, i.size, i.bytes)) = some (some (.int .i64 0), 1, 8) := by kernel_rfl

/-- A row without elements, of the call's own. -/
def Fresh (w : World) (e : Ending) (w' : World) : Prop := ∃ v, e = .returned v ∧ w'.ownsRow w.heap.size 2 1 v 0 [] ∧ Below w.heap.size w w'

set_option maxHeartbeats 2000000 in
theorem grow_none (n : Nat) (w : World) (hn : n ≤ 100000000) : Calls Tryd.prog 17 #[.slice none 0 0, .int .i64 n] w (Fresh w) := by
  rcases Nat.eq_zero_or_pos n with rfl | h0
  · go_enter Tryd.func17, Tryd.ntmps17
    go_wp2
    go_ret
    exact ⟨_, rfl, own_nil _ _ _ _, Below.refl _ _⟩
  · obtain ⟨i0, hi, hz0, hz1, hz2⟩ := info_parts infoI64
    have hrz := fun ty => Lib.run_append_nil_zeros w 28 3 ty 2 i0 (.int .i64 0) .i64 .i64 Tryd.underlying28 Tryd.underlying3 hi hz0 n h0 (by omega) (by omega) (by rw [hz2]; omega)
    have hG := grownCap_ge w n 0 2
    have hM := grownCap_le_maxLen w n 0 2 (by unfold maxLen; omega)
    have hZ : ∀ m, (Builtin.zeroCells (Value.int .i64 0).cells m).size = m := fun m => by simp [Builtin.zeroCells, Value.cells]
    generalize grownCap w n 0 2 = G at *
    unfold maxLen at hM
    have HM := Lib.hid hM
    have hC : (Builtin.zeroCells (Value.int .i64 0).cells n ++ Builtin.zeroCells (Value.int .i64 0).cells (G - n)).size = G := by rw [Array.size_append, hZ, hZ]; omega
    generalize Builtin.zeroCells (Value.int .i64 0).cells n ++ Builtin.zeroCells (Value.int .i64 0).cells (G - n) = C at *
    have HC := Lib.hid hC
    have HR := Lib.hid hrz
    have hn0 : (0 : Int) < (n : Int) := by omega
    have hg0 : (0 : Int) ≤ (G : Int) := by omega
    clear hC hZ hi hz0 hz1 hz2 hrz hM
    go_enter Tryd.func17, Tryd.ntmps17
    go_wp2_with (at_builtin; refine Lib.wpList_append_run _ rfl _ _ _ _ rfl _ _ rfl rfl _ _ (HR.out _) ?_)
    go_ret
    refine ⟨_, rfl, ⟨by simp, .inr ⟨w.heap.size, G, C, rfl, Nat.le_refl _, ?_, by omega, by have := HM.out; unfold maxLen; omega, by rw [HC.out]; simp, by simp⟩⟩, ?_⟩
    · exact heap_alloc_new w.drew _
    · exact (below_drew (Below.refl w.heap.size w)).alloc (show w.heap.size ≤ w.drew.heap.size from Nat.le_refl _) _

/-- A row of two slices of numbers. -/
def Two (w : World) (bs : Nat) (A C : Option Addr) (c d : Nat) (xs ys : List Int) : Prop :=
  w.heap[bs]? = some (.cells #[.slice A xs.length c, .slice C ys.length d] 28 (0, 0)) ∧ RdI w w.heap.size A xs ∧ RdI w w.heap.size C ys
theorem Two.next {w w' : World} {bs : Nat} {A C : Option Addr} {c d : Nat} {xs ys : List Int} (h : Two w bs A C c d xs ys) (hb : Below w.heap.size w w') : Two w' bs A C c d xs ys :=
  ⟨blk_below h.1 hb (blk_lt h.1), (h.2.1.below hb).more hb.size, (h.2.2.below hb).more hb.size⟩

theorem len_sum (xs ys : List Int) (h : xs.length ≤ 100000 ∧ ys.length ≤ 100000) : wrap64 ((xs.length : Int) + (ys.length : Int)) = ((xs.length + ys.length : Nat) : Int) := by unfold wrap64; omega

set_option maxRecDepth 100000 in
set_option maxHeartbeats 4000000 in
theorem concat_two (bs : Nat) (A C : Option Addr) (c d : Nat) (xs ys : List Int) (w : World) (h : Two w bs A C c d xs ys) (hl : xs.length ≤ 100000 ∧ ys.length ≤ 100000) :
    Calls Tryd.prog 12 #[.slice (some ⟨bs, 0, none⟩) 2 2] w
      fun e w' => ∃ v, e = .returned v ∧ w'.ownsRow w.heap.size 2 1 v (xs.length + ys.length) ((xs ++ ys).map (Value.int .i64)) ∧ Below w.heap.size w w' := by
  obtain ⟨i0, hi, hz0, hz1, hz2⟩ := info_parts infoI64
  have HI := Lib.hid (And.intro hi (And.intro hz0 (And.intro hz1 hz2)))
  have HT := Lib.hid h
  have HG := Lib.hid (fun W => grow_none (xs.length + ys.length) W (by omega))
  obtain ⟨n, hn⟩ : ∃ n, xs.length + ys.length = n := ⟨_, rfl⟩
  have HN := Lib.hid hn
  have c0 := blk_cell h.1 0
  have c1 := blk_cell h.1 1
  have hx0 : (xs.length : Int) ≤ 100000 := by omega
  have hy0 : (ys.length : Int) ≤ 100000 := by omega
  rw [hn] at HG
  clear hi hz0 hz1 hz2 h hn hl
  go_enter Tryd.func12, Tryd.ntmps12
  go_wp2_with fail
  go_loop [3, 5, 11] (fun s _ i => (i = .int .i64 0 ∧ s = .int .i64 0) ∨ (i = .int .i64 1 ∧ s = .int .i64 xs.length) ∨ (i = .int .i64 2 ∧ s = .int .i64 n)) (fun _ _ i => 2 - (intOf i).toNat)
  case atStart => exact .inl ⟨rfl, rfl⟩
  case round =>
    rcases hrel with ⟨rfl, rfl⟩ | ⟨rfl, rfl⟩ | ⟨rfl, rfl⟩
    · go_wp2_with fail
      go_round
      case rel => exact .inr (.inl ⟨rfl, rfl⟩)
      case measure => simp [intOf]
    · have hs : (xs.length : Int) + (ys.length : Int) = (n : Int) := by have := HN.out; omega
      have HS := Lib.hid hs
      clear hs
      go_wp2_with fail
      go_round
      case rel => exact .inr (.inr ⟨rfl, by rw [HS.out]⟩)
      case measure => simp [intOf]
    · clear c0 c1
      go_wp2_with fail
      (with_reducible refine (HG.out _).mono ?_)
      rintro e w1 ⟨v1, rfl, ho, hb⟩
      have HB1 := Lib.hid hb
      have HO1 := Lib.hid ho
      clear hb ho
      go_wp2_with fail
      go_loopw [6, 8, 27] (fun v _ i wr => Hid (Below w.heap.size w wr) ∧ ((i = .int .i64 0 ∧ Hid (wr.ownsRow w.heap.size 2 1 v 0 [])) ∨ (i = .int .i64 1 ∧ Hid (wr.ownsRow w.heap.size 2 1 v xs.length (xs.map (Value.int .i64)))) ∨ (i = .int .i64 2 ∧ Hid (wr.ownsRow w.heap.size 2 1 v (xs.length + ys.length) ((xs ++ ys).map (Value.int .i64)))))) (fun _ _ i _ => 2 - (intOf i).toNat)
      case atStart => exact ⟨HB1, .inl ⟨rfl, HO1⟩⟩
      case round =>
        obtain ⟨HBk, ⟨rfl, HOk⟩ | ⟨rfl, HOk⟩ | ⟨rfl, HOk⟩⟩ := hrel
        · have HTk := Lib.hid (HT.out.next HBk.out)
          have c0 := blk_cell HTk.out.1 0
          clear HB1 HO1
          go_wp2_with (at_builtin; refine wpList_append_rd _ rfl _ _ 28 rfl w.heap.size 2 i0 (.int .i64 0) 8 Tryd.underlying28 HI.out.1 HI.out.2.1 HI.out.2.2.1 HI.out.2.2.2 rfl _ 0 [] rfl HOk.out _ A xs.length c (xs.map (Value.int .i64)) rfl (by simp) HTk.out.2.1 (ints_one xs) (by simp [maxLen]; omega) (by simp; omega) HBk.out.size ?_; intro v2 w2 hown hgrow _)
          rw [List.length_map, Nat.zero_add, List.nil_append] at hown
          have HB2 := Lib.hid (below_own HBk.out (Nat.le_refl _) (Nat.le_refl _) HOk.out hgrow)
          have HO2 := Lib.hid hown
          clear hown hgrow
          go_roundw
          case rel => exact ⟨HB2, .inr (.inl ⟨rfl, HO2⟩)⟩
          case measure => simp [intOf]
        · have HTk := Lib.hid (HT.out.next HBk.out)
          have c1 := blk_cell HTk.out.1 1
          clear HB1 HO1
          go_wp2_with (at_builtin; refine wpList_append_rd _ rfl _ _ 28 rfl w.heap.size 2 i0 (.int .i64 0) 8 Tryd.underlying28 HI.out.1 HI.out.2.1 HI.out.2.2.1 HI.out.2.2.2 rfl _ xs.length (xs.map (Value.int .i64)) rfl HOk.out _ C ys.length d (ys.map (Value.int .i64)) rfl (by simp) HTk.out.2.2 (ints_one ys) (by simp [maxLen]; omega) (by simp; omega) HBk.out.size ?_; intro v2 w2 hown hgrow _)
          rw [List.length_map, ← List.map_append] at hown
          have HB2 := Lib.hid (below_own HBk.out (Nat.le_refl _) (Nat.le_refl _) HOk.out hgrow)
          have HO2 := Lib.hid hown
          clear hown hgrow
          go_roundw
          case rel => exact ⟨HB2, .inr (.inr ⟨rfl, HO2⟩)⟩
          case measure => simp [intOf]
        · clear HB1 HO1
          go_wp2_with fail
          go_ret
          exact ⟨_, rfl, HOk.out, HBk.out⟩

end Go.Proofs.YtnifbipbpengeaaDoor
