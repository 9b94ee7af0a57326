/- Walks: the reference's Of. Conditions: none. -/
import Derived.Test.YtdaomkjlnakdcaaDoorMarkRef
namespace Go.Proofs.YtdaomkjlnakdcaaDoor
open Go.RowKit

set_option maxHeartbeats 400000 in
theorem of_any (x y : Int) (w : World) (hx : -2147483648 ≤ x ∧ x ≤ 2147483647) (hy : -2147483648 ≤ y ∧ y ≤ 2147483647) : Calls Tryd.prog 19 #[.int .i32 x, .int .i32 y] w (GivesM w x y) := by
  have h1 : IntKind.i64.wrap x = x := IntWalk.i64_in _ (by omega)
  have h2 : IntKind.i64.wrap y = y := IntWalk.i64_in _ (by omega)
  clear hx hy
  go_enter Tryd.func19, Tryd.ntmps19
  go_wp2
  refine bodyPost_ret (v := .agg #[.int .i64 x, .int .i64 y]) ?_ rfl ⟨rfl, (Below.refl _ _).alloc (Nat.le_refl _) _⟩
  simp [results, Tryd.results19, go_sem]

set_option maxHeartbeats 800000 in
theorem refOf_any (A : Option Addr) (cap : Nat) (zs : List Int) (w : World) (hr : RdI w w.heap.size A zs) (hl : zs.length ≤ 1048576) :
    Calls Tryd.prog 16 #[.slice A zs.length cap] w (GivesM w (ofRe 0 zs) (ofIm 0 zs)) := by
  go_enter Tryd.func16, Tryd.ntmps16
  go_wp2
  go_loopw [4] (fun i wr => ∃ k : Nat, k ≤ zs.length ∧ i = .int .i64 k ∧ wr.heap[w.heap.size + 1]? = some (.cells #[.int .i64 (ofRe 0 (zs.take k)), .int .i64 (ofIm 0 (zs.take k))] 28 (0, 0)) ∧ wr.heap[w.heap.size]? = some (.cells #[.int .i64 0, .int .i64 0] 28 (0, 0)) ∧ Below w.heap.size w wr)
    (fun i _ => zs.length - (intOf i).toNat)
  case atStart => exact ⟨0, Nat.zero_le _, rfl, blk_new (by simp) _, blk_alloc (heap_alloc_new w _) _, ((Below.refl _ _).alloc (Nat.le_refl _) _).alloc (by simp) _⟩
  case round =>
    obtain ⟨k, hk, rfl, hz, ho, hbr⟩ := hrel
    have bd := of_bd (zs.take k) 0
    have bl : (zs.take k).length ≤ 1048576 := by have := List.length_take_le k zs; omega
    by_cases hlt : k < zs.length
    · obtain ⟨bb, off, rfl, hbl, hc⟩ := hr.at_ (by omega)
      obtain ⟨x, hx⟩ := get_some zs k hlt
      have c1 : wr.cell? ⟨bb, off + k, none⟩ = some (.int .i64 x) := (hbr.cell (p := ⟨bb, off + k, none⟩) hbl).trans (hc k x hx)
      have hs := Lib.hid (of_snoc zs 0 k x hx)
      have lb := low_bd x
      have tb := turn_bd (n := k) (x := low x) (y := 0) (m := 32768) (by omega) (by omega)
      have hn1 : wrap64 (ofRe 0 (zs.take k) + tRe k (low x) 0) = ofRe 0 (zs.take k) + tRe k (low x) 0 := IntWalk.wrap64_in _ (by omega)
      have hn2 : wrap64 (ofIm 0 (zs.take k) + tIm k (low x) 0) = ofIm 0 (zs.take k) + tIm k (low x) 0 := IntWalk.wrap64_in _ (by omega)
      have C := fun W => Lib.hid (refTurn_any (low x) 0 k W (by omega) (by omega))
      have HZ := Lib.hid hz
      have HO := Lib.hid ho
      have hsz := blk_lt hz
      clear hc hx bd bl lb tb hz ho
      go_wp2_with (first
        | (go_at_call 18; refine (refLow_any x _).mono ?_; rintro e w1 ⟨rfl, rfl⟩)
        | (go_at_call 21; refine (C _).out.mono ?_; rintro e w1 ⟨rfl, hb1⟩;
           have hz1 := blk_below HZ.out hb1 hsz; have ho1 := blk_below HO.out hb1 (by omega); have hsz1 : w.heap.size + 1 < w1.heap.size := blk_lt hz1;
           have e0 : w1.cell? ⟨w.heap.size + 1, 0, none⟩ = some (.int .i64 (ofRe 0 (zs.take k))) := blk_cell hz1 0;
           have e1 : w1.cell? ⟨w.heap.size + 1, 1, none⟩ = some (.int .i64 (ofIm 0 (zs.take k))) := blk_cell hz1 1;
           have f0 : w1.frozen? ⟨w.heap.size + 1, 0, none⟩ = false := blk_frozen hz1 0;
           have f1 : w1.frozen? ⟨w.heap.size + 1, 1, none⟩ = false := blk_frozen hz1 1;
           have HZ1 := Lib.hid hz1; have HO1 := Lib.hid ho1; have HB1 := Lib.hid hb1; clear hz1 ho1 hb1))
      go_roundw
      case rel =>
        refine ⟨k + 1, by omega, by go_num, ?_, blk_alloc (blk_far (blk_far HO1.out (by simp) _) (by simp) _) _, (((hbr.trans (HB1.out.mono (by omega))).setCell (Nat.le_succ _) _).setCell (Nat.le_succ _) _).alloc (by simp [World.size_setCell]; omega) _⟩
        have h := hs.out
        rw [Nat.zero_add] at h
        rw [h.1, h.2]
        exact blk_alloc (blk_set (blk_set HZ1.out 0 _) 1 _) _
      case measure => simp [intOf]; omega
    · have ht : Hid (zs.take k = zs) := Lib.hid (List.take_of_length_le (by omega))
      have c0 : wr.cell? ⟨w.heap.size + 1, 0, none⟩ = some (.int .i64 (ofRe 0 (zs.take k))) := blk_cell hz 0
      have c1 : wr.cell? ⟨w.heap.size + 1, 1, none⟩ = some (.int .i64 (ofIm 0 (zs.take k))) := blk_cell hz 1
      have d0 : wr.cell? ⟨w.heap.size, 0, none⟩ = some (.int .i64 0) := blk_cell ho 0
      have d1 : wr.cell? ⟨w.heap.size, 1, none⟩ = some (.int .i64 0) := blk_cell ho 1
      have z0 : wr.frozen? ⟨w.heap.size, 0, none⟩ = false := blk_frozen ho 0
      have z1 : wr.frozen? ⟨w.heap.size, 1, none⟩ = false := blk_frozen ho 1
      have HZ := Lib.hid hz
      have HO := Lib.hid ho
      have BD := Lib.hid bd
      clear hz ho bd
      go_wp2
      have h0 := blk_set HO.out 0 (.int .i64 (ofRe 0 (zs.take k)))
      have h1 := blk_set h0 1 (.int .i64 (ofIm 0 (zs.take k)))
      have c0 := blk_cell h1 0
      have c1 := blk_cell h1 1
      refine bodyPost_ret (v := .agg #[.int .i64 (ofRe 0 (zs.take k)), .int .i64 (ofIm 0 (zs.take k))]) ?_ rfl ⟨?_, (hbr.setCell (by simp) _).setCell (by simp) _⟩
      · simp [results, Tryd.results16, go_sem] at c0 c1 ⊢
        simp [c0, c1]
      · rw [ht.out]

end Go.Proofs.YtdaomkjlnakdcaaDoor
