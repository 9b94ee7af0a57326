/- Walks: the reference's Weights and Biases. Conditions: none. -/
import Derived.Test.YtjjoendjgiiknaaDoorShapeRange
namespace Go.Proofs.YtjjoendjgiiknaaDoor
open Go.RowKit

theorem rdI_take {w : World} {B : Nat} {A : Option Addr} {zs : List Int} (h : RdI w B A zs) (n : Nat) : RdI w B A (zs.take n) := fun h0 => by
  obtain ⟨b, off, e, hb, hc⟩ := h (by simp at h0 ⊢; omega)
  refine ⟨b, off, e, hb, fun j u hu => hc j u ?_⟩
  rw [List.getElem?_map, List.getElem?_take] at hu
  split at hu
  · rw [List.getElem?_map]; exact hu
  · cases hu
theorem cell_far1 {w : World} {g : Nat} {t : TypeId} {cs : Array Value} (h : w.heap[g]? = some (.cells cs t (0, 0))) {p q : Addr} (hp : g ≠ p.block) (hq : g ≠ q.block) (u v : Value) (i : Nat) : ((w.setCell p u).setCell q v).cell? ⟨g, i, none⟩ = cs[i]? :=
  blk_cell (blk_far (blk_far h hp u) hq v) i

set_option maxRecDepth 100000 in
set_option maxHeartbeats 1000000 in
theorem refWeights_any (A : Option Addr) (cap : Nat) (zs : List Int) (hs : ShOk zs) (k : Int) (w : World) (hr : RdI w w.heap.size A zs) (hcap : zs.length ≤ cap) :
    Calls Tryd.prog 17 #[.slice A zs.length cap, .int .i64 k] w fun e w' => e = .returned (.agg #[.int .i64 (wgt zs k).1, .int .i64 (wgt zs k).2]) ∧ Below w.heap.size w w' := by
  have HB0 := Lib.hid ((Below.refl w.heap.size w).alloc (Nat.le_refl _) (.cells #[.int .i64 0, .int .i64 0] 34))
  have HF := Lib.hid (heap_alloc_new w (.cells #[.int .i64 0, .int .i64 0] 34))
  have hwg : wgt zs k = if 0 ≤ k ∧ k < (zs.length : Int) - 1 then (lo zs k.toNat, mid zs k.toNat) else (0, 0) := rfl
  have h16 : (zs.length : Int) ≤ 16 := by have := hs.2.1; omega
  have hcp : (zs.length : Int) ≤ (cap : Int) := by omega
  by_cases hk : 0 ≤ k ∧ k < (zs.length : Int) - 1
  · rw [if_pos hk] at hwg
    obtain ⟨n, rfl⟩ := Int.eq_ofNat_of_zero_le hk.1
    rw [Int.toNat_natCast] at hwg
    have hn : n + 1 < zs.length := by omega
    obtain ⟨b, off, rfl, hb, hcs⟩ := hr.at_ (by omega)
    have f1 := hcs n _ (zAt_get (by omega))
    have f2 := hcs (n + 1) _ (zAt_get hn)
    have ha := zAt_ok hs (k := n) (by omega)
    have ha2 := zAt_ok hs hn
    have hlt1 : (zs.take (n + 1)).length = n + 1 := by simp; omega
    have hC := fun W (hW : Below w.heap.size w W) => refCount_any (some ⟨b, off, none⟩) cap (zs.take (n + 1)) W (rdI_take ((hr.below hW).more hW.size) _) (by rw [hlt1]; have := hs.2.1; omega) (List.all_eq_true.2 fun z hz => okSz_iff.2 (hs.2.2.1 z (List.mem_of_mem_take hz)))
    rw [hlt1] at hC
    rw [show cnt (zs.take (n + 1)) = lo zs n from rfl] at hC
    have hmd : mid zs n = lo zs n + zAt zs (n + 1) * zAt zs n := rfl
    have hl0 := lo_nonneg hs (k := n) (by omega)
    have hl1 := (mid_ge hs hn).2
    have hl2 := lo_cnt hs hn
    have hl3 := hs.2.2.2
    have hl4 := (mid_ge hs hn).1
    rw [hwg]
    dsimp only
    have hmul : zAt zs n * zAt zs (n + 1) = mid zs n - lo zs n := by rw [hmd, Int.mul_comm]; omega
    generalize mid zs n = M at *
    generalize lo zs (n + 1) = L1 at *
    generalize lo zs n = L at *
    generalize zAt zs n = a at *
    generalize zAt zs (n + 1) = a' at *
    have m1 : IntKind.i64.wrap (a * a') = M - L := by rw [hmul]; exact IntWalk.i64_in _ (by omega)
    have m2 : IntKind.i64.wrap (L + (M - L)) = M := by rw [show L + (M - L) = M by omega]; exact IntWalk.i64_in _ (by omega)
    have p1 : IntKind.i64.wrap ((n : Int) + 1) = (n : Int) + 1 := IntWalk.i64_in _ (by omega)
    have p2 : ((n : Int) + 1).toNat = n + 1 := by omega
    have HC := Lib.hid hC
    have hn0 : ¬ (n : Int) < 0 := by omega
    have hn1 : (n : Int) < (zs.length : Int) - 1 := by omega
    have hn5 : (0 : Int) ≤ (n : Int) := by omega
    have hcap2 : (n : Int) + 1 ≤ (cap : Int) := by omega
    have hlen2 : (n : Int) + 1 < (zs.length : Int) := by omega
    have hlen3 : (n : Int) < (zs.length : Int) := by omega
    have p3 : (0 : Int) ≤ (n : Int) + 1 := by omega
    have HCF := Lib.hid (fun W (hW : Below w.heap.size w W) => And.intro ((hW.cell (p := ⟨b, off + n, none⟩) hb).trans f1) ((hW.cell (p := ⟨b, off + (n + 1), none⟩) hb).trans f2))
    clear hr hcs f1 f2 hC hk hwg hn hlt1 hmd hs hcap hmul
    go_enter Tryd.func17, Tryd.ntmps17
    go_wp2_with fail
    (with_reducible refine (HC.out _ HB0.out).mono ?_)
    rintro e w1 ⟨rfl, q, rfl⟩
    obtain ⟨w1, hw1⟩ : ∃ W, (w.alloc (.cells #[.int .i64 0, .int .i64 0] 34)).drewN q = W := ⟨_, rfl⟩
    have HB1 := Lib.hid (show Below w.heap.size w w1 from hw1 ▸ below_drewN HB0.out q)
    have HF1 := Lib.hid (show w1.heap[w.heap.size]? = some (.cells #[.int .i64 0, .int .i64 0] 34 (0, 0)) from hw1 ▸ blk_drewN HF.out q)
    rw [hw1]
    have F0 := blk_cell HF1.out 0
    have F1 := blk_cell HF1.out 1
    have Z0 := blk_frozen HF1.out 0
    have Z1 := blk_frozen HF1.out 1
    have hbl : w.heap.size < w1.heap.size := blk_lt HF1.out
    clear hw1 HC HF HB0
    go_wp2_with fail
    go_region_held3 (fun w' => w'.cell? ⟨b, off + n, none⟩ = some (.int .i64 a) ∧ w'.cell? ⟨b, off + (n + 1), none⟩ = some (.int .i64 a'))
      (first
        | exact HCF.out _ ((below_drew HB1.out).setCell (p := ⟨w.heap.size, 0, none⟩) (Nat.le_refl _) _ |>.setCell (p := ⟨w.heap.size, 1, none⟩) (Nat.le_refl _) _)
        | exact HCF.out _ (below_drew HB1.out)
        | exact HCF.out _ HB1.out)
      (fail)
    have K := blk_set (blk_set HF1.out 0 (.int .i64 L)) 1 (.int .i64 M)
    have K0 := blk_cell K 0
    have K1 := blk_cell K 1
    have HB3 := Lib.hid (below_drew ((HB1.out.setCell (p := ⟨w.heap.size, 0, none⟩) (Nat.le_refl _) (.int .i64 L)).setCell (p := ⟨w.heap.size, 1, none⟩) (Nat.le_refl _) (.int .i64 M)))
    clear F0 F1 Z0 Z1 K
    go_wp2_with fail
    refine bodyPost_ret (v := .agg #[.int .i64 L, .int .i64 M]) ?_ rfl ⟨rfl, HB3.out⟩
    simp [results, Tryd.results17, go_sem, K0, K1]
  · rw [if_neg hk] at hwg
    rw [hwg]
    dsimp only
    clear hwg
    by_cases hk0 : k < 0
    · clear hk
      go_enter Tryd.func17, Tryd.ntmps17
      go_wp2_with fail
      refine bodyPost_ret (v := .agg #[.int .i64 0, .int .i64 0]) ?_ rfl ⟨rfl, HB0.out⟩
      simp [results, Tryd.results17, go_sem]
    · have hk1 : (zs.length : Int) - 1 ≤ k := by omega
      clear hk
      go_enter Tryd.func17, Tryd.ntmps17
      go_wp2_with fail
      refine bodyPost_ret (v := .agg #[.int .i64 0, .int .i64 0]) ?_ rfl ⟨rfl, HB0.out⟩
      simp [results, Tryd.results17, go_sem]

set_option maxRecDepth 100000 in
set_option maxHeartbeats 1000000 in
theorem refBiases_any (A : Option Addr) (cap : Nat) (zs : List Int) (hs : ShOk zs) (k : Int) (w : World) (hr : RdI w w.heap.size A zs) (hcap : zs.length ≤ cap) :
    Calls Tryd.prog 19 #[.slice A zs.length cap, .int .i64 k] w fun e w' => e = .returned (.agg #[.int .i64 (bia zs k).1, .int .i64 (bia zs k).2]) ∧ Below w.heap.size w w' := by
  have HB0 := Lib.hid ((Below.refl w.heap.size w).alloc (Nat.le_refl _) (.cells #[.int .i64 0, .int .i64 0] 34))
  have HF := Lib.hid (heap_alloc_new w (.cells #[.int .i64 0, .int .i64 0] 34))
  have hwg : bia zs k = if 0 ≤ k ∧ k < (zs.length : Int) - 1 then (mid zs k.toNat, lo zs (k.toNat + 1)) else (0, 0) := rfl
  have h16 : (zs.length : Int) ≤ 16 := by have := hs.2.1; omega
  have hcp : (zs.length : Int) ≤ (cap : Int) := by omega
  by_cases hk : 0 ≤ k ∧ k < (zs.length : Int) - 1
  · rw [if_pos hk] at hwg
    have hwk : wgt zs k = (lo zs k.toNat, mid zs k.toNat) := if_pos hk
    have hW := fun W (hW : Below w.heap.size w W) => refWeights_any A cap zs hs k W ((hr.below hW).more hW.size) hcap
    rw [hwk] at hW
    dsimp only at hW
    obtain ⟨n, rfl⟩ := Int.eq_ofNat_of_zero_le hk.1
    rw [Int.toNat_natCast] at hwg hW
    have hn : n + 1 < zs.length := by omega
    obtain ⟨b, off, rfl, hb, hcs⟩ := hr.at_ (by omega)
    have hlt1 : (zs.take (n + 2)).length = n + 2 := by simp; omega
    have hC := fun W (hW : Below w.heap.size w W) => refCount_any (some ⟨b, off, none⟩) cap (zs.take (n + 2)) W (rdI_take ((hr.below hW).more hW.size) _) (by rw [hlt1]; have := hs.2.1; omega) (List.all_eq_true.2 fun z hz => okSz_iff.2 (hs.2.2.1 z (List.mem_of_mem_take hz)))
    rw [hlt1] at hC
    rw [show cnt (zs.take (n + 2)) = lo zs (n + 1) from rfl] at hC
    rw [hwg]
    dsimp only
    generalize mid zs n = M at *
    generalize lo zs (n + 1) = L1 at *
    generalize lo zs n = L at *
    have hfd : ∀ w : World, (Instr.field 34 (.agg #[.int .i64 L, .int .i64 M]) 1).run Tryd.prog w = .ok (.int .i64 M) w := fun _ => by kernel_rfl
    have p1 : IntKind.i64.wrap ((n : Int) + 2) = (n : Int) + 2 := IntWalk.i64_in _ (by omega)
    have p2 : ((n : Int) + 2).toNat = n + 2 := by omega
    have HC := Lib.hid hC
    have HW := Lib.hid hW
    have hn0 : ¬ (n : Int) < 0 := by omega
    have hn1 : (n : Int) < (zs.length : Int) - 1 := by omega
    have hn5 : (0 : Int) ≤ (n : Int) := by omega
    have hcap2 : (n : Int) + 2 ≤ (cap : Int) := by omega
    have p3 : (0 : Int) ≤ (n : Int) + 2 := by omega
    clear hr hcs hC hW hk hwg hwk hn hlt1 hs hcap
    go_enter Tryd.func19, Tryd.ntmps19
    go_wp2_with fail
    go_region_held3 (fun _ => True) (trivial)
      (first
        | (go_at_call 17
           (with_reducible refine (HW.out _ (below_drew HB0.out)).mono ?_)
           rintro e w1 ⟨rfl, hb1⟩
           have HB1 := Lib.hid ((below_drew HB0.out).trans (hb1.mono HB0.out.size))
           have HF1 := Lib.hid (blk_keep (blk_drew HF.out) hb1)
           clear hb1 HB0 HF HW)
        | (go_at_call 15
           (with_reducible refine (HC.out _ HB1.out).mono ?_)
           rintro e w2 ⟨rfl, q, rfl⟩
           have F0 := blk_cell HF1.out 0
           have F1 := blk_cell HF1.out 1
           have Z0 := blk_frozen HF1.out 0
           have Z1 := blk_frozen HF1.out 1
           have hbl : w.heap.size < w1.heap.size := blk_lt HF1.out
           clear HC))
    have K := blk_set (blk_set (blk_drewN HF1.out q) 0 (.int .i64 M)) 1 (.int .i64 L1)
    have K0 := blk_cell K 0
    have K1 := blk_cell K 1
    have HB3 := Lib.hid (((below_drewN HB1.out q).setCell (p := ⟨w.heap.size, 0, none⟩) (Nat.le_refl _) (.int .i64 M)).setCell (p := ⟨w.heap.size, 1, none⟩) (Nat.le_refl _) (.int .i64 L1))
    clear F0 F1 Z0 Z1 K
    go_wp2_with fail
    refine bodyPost_ret (v := .agg #[.int .i64 M, .int .i64 L1]) ?_ rfl ⟨rfl, HB3.out⟩
    simp [results, Tryd.results19, go_sem, K0, K1]
  · rw [if_neg hk] at hwg
    rw [hwg]
    dsimp only
    clear hwg
    by_cases hk0 : k < 0
    · clear hk
      go_enter Tryd.func19, Tryd.ntmps19
      go_wp2_with fail
      refine bodyPost_ret (v := .agg #[.int .i64 0, .int .i64 0]) ?_ rfl ⟨rfl, HB0.out⟩
      simp [results, Tryd.results19, go_sem]
    · have hk1 : (zs.length : Int) - 1 ≤ k := by omega
      clear hk
      go_enter Tryd.func19, Tryd.ntmps19
      go_wp2_with fail
      refine bodyPost_ret (v := .agg #[.int .i64 0, .int .i64 0]) ?_ rfl ⟨rfl, HB0.out⟩
      simp [results, Tryd.results19, go_sem]

end Go.Proofs.YtjjoendjgiiknaaDoor
