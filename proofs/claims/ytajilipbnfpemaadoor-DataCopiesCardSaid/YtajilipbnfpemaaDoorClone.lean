/- Walks: slices.Clone at numbers, and the reference's Clone. Conditions: none. -/
import Derived.Test.YtajilipbnfpemaaDoorAppend
namespace Go.Proofs.YtajilipbnfpemaaDoor
open Go.RowKit

theorem own_empty (w : World) (e : TypeId) : (w.alloc (.cells #[] e)).ownsRow w.heap.size e 1 (.slice (some ⟨w.heap.size, 0, none⟩) 0 0) 0 [] :=
  ⟨by simp, .inr ⟨w.heap.size, 0, #[], rfl, Nat.le_refl _, heap_alloc_new w _, Nat.le_refl _, by simp [maxLen], by simp, by simp⟩⟩

theorem info64 : (Tryd.prog.info? 2).map (fun i => (i.zero, i.size, i.bytes)) = some (some (.int .i64 0), 1, 8) := by kernel_rfl

set_option maxHeartbeats 400000 in
theorem clone_any (A : Option Addr) (cap : Nat) (zs : List Int) (w : World) (hr : RdI w w.heap.size A zs) (hl : zs.length ≤ 1099511627776) :
    Calls Tryd.prog 52 #[.slice A zs.length cap] w fun e w' => ∃ v, e = .returned v ∧ w'.ownsRow w.heap.size 2 1 v zs.length (zs.map (Value.int .i64)) ∧ Below w.heap.size w w' := by
  obtain ⟨i0, hi0, hz0, hz1, hz2⟩ := info_parts info64
  have hr' := Lib.hid (hr.alloc (Nat.le_refl _) (.cells #[] 2))
  have hb' := Lib.hid ((Below.refl w.heap.size w).alloc (Nat.le_refl _) (.cells #[] 2))
  have ho := Lib.hid (own_empty w 2)
  have HL := Lib.hid hl
  have H0 := Lib.hid (And.intro hi0 (And.intro hz0 (And.intro hz1 hz2)))
  clear hl hr hi0 hz0 hz1 hz2
  go_enter Tryd.func52, Tryd.ntmps52
  go_wp2_with (at_builtin; refine wpList_append_rd _ rfl _ _ 44 rfl w.heap.size 2 i0 (.int .i64 0) 8 Tryd.underlying44 H0.out.1 H0.out.2.1 H0.out.2.2.1 H0.out.2.2.2 rfl _ 0 [] rfl ho.out _ A zs.length cap (zs.map (Value.int .i64)) rfl (by simp) hr'.out (ints_one zs) (by have := HL.out; simp [maxLen]; omega) (by have := HL.out; simp; omega) (by simp) ?_; intro v' w1 hown hg _)
  have HO := Lib.hid hown
  have hB := Lib.hid (below_own hb'.out (Nat.le_refl _) (Nat.le_refl _) ho.out hg)
  clear hown hg
  go_wp2
  go_ret
  exact ⟨_, rfl, by simpa using HO.out, hB.out⟩

set_option maxHeartbeats 400000 in
theorem slicesClone_any (A : Option Addr) (cap : Nat) (zs : List Int) (w : World) (hr : RdI w w.heap.size A zs) (hl : zs.length ≤ 1099511627776) :
    Calls Tryd.prog 79 #[.slice A zs.length cap] w fun e w' => ∃ v, e = .returned v ∧ w'.ownsRow w.heap.size 2 1 v zs.length (zs.map (Value.int .i64)) ∧ Below w.heap.size w w' := by
  rcases A with _ | a
  · have hz : zs = [] := by
      cases zs with
      | nil => rfl
      | cons z r => obtain ⟨b, off, e, _⟩ := hr.at_ (by simp); cases e
    subst hz
    have he := fun c => Lib.run_eql_slice_nil (P := Tryd.prog) w 44 2 none 0 c 0 0 Tryd.underlying44
    go_enter Tryd.func79, Tryd.ntmps79
    go_wp2
    go_ret
    exact ⟨_, rfl, own_nil _ _ _ _, Below.refl _ _⟩
  · obtain ⟨i0, hi0, hz0, hz1, hz2⟩ := info_parts info64
    have hr' := Lib.hid (hr.alloc (Nat.le_refl _) (.cells #[] 2))
    have hb' := Lib.hid ((Below.refl w.heap.size w).alloc (Nat.le_refl _) (.cells #[] 2))
    have ho := Lib.hid (own_empty w 2)
    have HL := Lib.hid hl
    have H0 := Lib.hid (And.intro hi0 (And.intro hz0 (And.intro hz1 hz2)))
    clear hl hr hi0 hz0 hz1 hz2
    have he := Lib.run_eql_slice_nil (P := Tryd.prog) w 44 2 (some a) zs.length cap 0 0 Tryd.underlying44
    go_enter Tryd.func79, Tryd.ntmps79
    go_wp2_with (at_builtin; refine wpList_append_rd _ rfl _ _ 44 rfl w.heap.size 2 i0 (.int .i64 0) 8 Tryd.underlying44 H0.out.1 H0.out.2.1 H0.out.2.2.1 H0.out.2.2.2 rfl _ 0 [] rfl ho.out _ (some a) zs.length cap (zs.map (Value.int .i64)) rfl (by simp) hr'.out (ints_one zs) (by have := HL.out; simp [maxLen]; omega) (by have := HL.out; simp; omega) (by simp) ?_; intro v' w1 hown hg _)
    have HO := Lib.hid hown
    have hB := Lib.hid (below_own hb'.out (Nat.le_refl _) (Nat.le_refl _) ho.out hg)
    clear hown hg
    go_wp2
    go_ret
    exact ⟨_, rfl, by simpa using HO.out, hB.out⟩

end Go.Proofs.YtajilipbnfpemaaDoor
