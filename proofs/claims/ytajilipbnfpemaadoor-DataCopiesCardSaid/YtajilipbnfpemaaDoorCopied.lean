/- Walks: data.copied. Conditions: none. -/
import Derived.Test.YtajilipbnfpemaaDoorCopy
namespace Go.Proofs.YtajilipbnfpemaaDoor
open Go.RowKit

theorem newAt {w : World} {n : Nat} (h : w.heap.size = n) (o : Obj) : (w.alloc o).heap[n]? = some o := by subst h; exact heap_alloc_new w o
theorem cell_far2 {w : World} {g : Nat} {t : TypeId} {cs : Array Value} (h : w.heap[g]? = some (.cells cs t (0, 0))) {p q : Addr} (hp : g ≠ p.block) (hq : g ≠ q.block) (u v : Value) (i : Nat) : ((w.setCell p u).setCell q v).cell? ⟨g, i, none⟩ = cs[i]? :=
  blk_cell (blk_far (blk_far h hp u) hq v) i
theorem own_set2 {w : World} {base e size n g : Nat} {v : Value} {xs : List Value} {t : TypeId} {cs : Array Value} (h : w.ownsRow base e size v n xs) (hg : w.heap[g]? = some (.cells cs t (0, 0))) (hne : e ≠ t) {p q : Addr} (hp : p.block = g) (hq : q.block = g) (u u' : Value) : ((w.setCell p u).setCell q u').ownsRow base e size v n xs :=
  h.kept (only_setCell (only_setCell (World.grownBy.refl w (some g)) (.inl hp) u) (.inl hq) u') (.inr (own_ne h hg hne))
theorem blk_keep {W w' : World} {g : Nat} {o : Obj} (h : W.heap[g]? = some o) (hb : Below W.heap.size W w') : w'.heap[g]? = some o := blk_below h hb (blk_lt h)

set_option maxRecDepth 100000 in
set_option maxHeartbeats 1000000 in
theorem copied_any (ex : Ex) (w : World) (hr : RdX w w.heap.size ex) (hl : ex.xs.length ≤ 1099511627776 ∧ ex.ys.length ≤ 1099511627776) :
    Calls Tryd.prog 55 #[ex.val] w fun e w' => ∃ c : Ex, e = .returned c.val ∧ CopyOf w.heap.size w' ex c ∧ Below w.heap.size w w' := by
  have HX := Lib.hid (fun W (hW : Below w.heap.size w W) => slicesClone_any ex.ax ex.cx ex.xs W ((hr.1.below hW).more hW.size) hl.1)
  have HY := Lib.hid (fun W (hW : Below w.heap.size w W) => slicesClone_any ex.ay ex.cy ex.ys W ((hr.2.1.below hW).more hW.size) hl.2)
  obtain ⟨ax, xs, cx, ay, ys, cy⟩ := ex
  unfold Ex.val
  dsimp only at HX HY ⊢
  have HB := Lib.hid (((Below.refl w.heap.size w).alloc (Nat.le_refl _) (.cells #[.slice ax xs.length cx, .slice ay ys.length cy] 46)).alloc (by simp) (.cells #[.slice none 0 0, .slice none 0 0] 46))
  have HE := Lib.hid (blk_alloc (heap_alloc_new w (.cells #[.slice ax xs.length cx, .slice ay ys.length cy] 46)) (.cells #[.slice none 0 0, .slice none 0 0] 46))
  have HF := Lib.hid (newAt (show (w.alloc (.cells #[.slice ax xs.length cx, .slice ay ys.length cy] 46)).heap.size = w.heap.size + 1 by simp) (.cells #[.slice none 0 0, .slice none 0 0] 46))
  clear hr hl
  go_enter Tryd.func55, Tryd.ntmps55
  go_wp2_with fail
  go_region_held3 (fun w' => w'.cell? ⟨w.heap.size, 0, none⟩ = some (.slice ax xs.length cx) ∧ w'.cell? ⟨w.heap.size, 1, none⟩ = some (.slice ay ys.length cy))
    (first
      | exact ⟨cell_far2 HE2.out (by dsimp only; omega) (by dsimp only; omega) _ _ 0, cell_far2 HE2.out (by dsimp only; omega) (by dsimp only; omega) _ _ 1⟩
      | exact ⟨blk_cell HE2.out 0, blk_cell HE2.out 1⟩
      | exact ⟨blk_cell HE1.out 0, blk_cell HE1.out 1⟩
      | exact ⟨blk_cell HE.out 0, blk_cell HE.out 1⟩)
    (first
      | (go_at_call 79
         (with_reducible refine (HX.out _ (below_drew HB.out)).mono ?_)
         rintro e w1 ⟨vx, rfl, hox, hb1⟩
         obtain ⟨A1, c1, rfl⟩ := own_slice hox
         have HO1 := Lib.hid (own_more hox HB.out.size)
         have HB1 := Lib.hid ((below_drew HB.out).trans (hb1.mono HB.out.size))
         have HE1 := Lib.hid (blk_keep (blk_drew HE.out) hb1)
         have HF1 := Lib.hid (blk_keep (blk_drew HF.out) hb1)
         clear hb1 hox HB HE HF HX)
      | (go_at_call 79
         (with_reducible refine (HY.out _ HB1.out).mono ?_)
         rintro e w2 ⟨vy, rfl, hoy, hb2⟩
         obtain ⟨A2, c2, rfl⟩ := own_slice hoy
         have HOX := Lib.hid (own_below HO1.out hb2)
         have HOY := Lib.hid (own_more hoy HB1.out.size)
         have HB2 := Lib.hid (HB1.out.trans (hb2.mono HB1.out.size))
         have HE2 := Lib.hid (blk_keep HE1.out hb2)
         have HF2 := Lib.hid (blk_keep HF1.out hb2)
         have F0 := blk_cell HF2.out 0
         have F1 := blk_cell HF2.out 1
         have Z0 := blk_frozen HF2.out 0
         have Z1 := blk_frozen HF2.out 1
         clear hb2 hoy HO1 HB1 HE1 HF1 HY))
  go_wp2_with fail
  have K := blk_set (blk_set HF2.out 0 (.slice A1 xs.length c1)) 1 (.slice A2 ys.length c2)
  have K0 := blk_cell K 0
  have K1 := blk_cell K 1
  have HO1 := Lib.hid (own_set2 HOX.out HF2.out (by decide) (p := ⟨w.heap.size + 1, 0, none⟩) (q := ⟨w.heap.size + 1, 1, none⟩) rfl rfl (.slice A1 xs.length c1) (.slice A2 ys.length c2))
  have HO2 := Lib.hid (own_set2 HOY.out HF2.out (by decide) (p := ⟨w.heap.size + 1, 0, none⟩) (q := ⟨w.heap.size + 1, 1, none⟩) rfl rfl (.slice A1 xs.length c1) (.slice A2 ys.length c2))
  have HB3 := Lib.hid ((HB2.out.setCell (p := ⟨w.heap.size + 1, 0, none⟩) (by simp) (.slice A1 xs.length c1)).setCell (p := ⟨w.heap.size + 1, 1, none⟩) (by simp) (.slice A2 ys.length c2))
  clear F0 F1 Z0 Z1 HB2 HF2 HE2 HOX HOY K
  refine bodyPost_ret (v := .agg #[.slice A1 xs.length c1, .slice A2 ys.length c2]) ?_ rfl ⟨⟨A1, xs, c1, A2, ys, c2⟩, rfl, ⟨rfl, rfl, HO1.out, HO2.out⟩, HB3.out⟩
  simp [results, Tryd.results55, go_sem, K0, K1]

end Go.Proofs.YtajilipbnfpemaaDoor
