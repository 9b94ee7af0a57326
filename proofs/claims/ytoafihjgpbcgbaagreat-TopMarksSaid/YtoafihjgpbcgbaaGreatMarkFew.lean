/- Walks: Few and Clone of the reference's vectors. Conditions: none. -/
import Derived.Test.YtoafihjgpbcgbaaGreatAppend
namespace Go.Proofs.YtoafihjgpbcgbaaGreat
open Go.RowKit

/-- What Few adds up. -/
def fewSum : List (Option Addr × Nat × Nat) → Nat
  | [] => 0
  | v :: l => min v.2.1 2000 + fewSum l
theorem few_snoc : ∀ (l : List (Option Addr × Nat × Nat)) (k : Nat) (v : Option Addr × Nat × Nat), l[k]? = some v → fewSum (l.take (k + 1)) = fewSum (l.take k) + min v.2.1 2000
  | [], _, _, h => by simp at h
  | y :: l, 0, v, h => by
    simp at h; subst h
    simp [fewSum]
  | y :: l, k + 1, v, h => by
    have ih := few_snoc l k v (by simpa using h)
    simp only [List.take_succ_cons, fewSum]
    omega
theorem few_bd : ∀ l : List (Option Addr × Nat × Nat), fewSum l ≤ 2000 * l.length
  | [] => by simp [fewSum]
  | v :: l => by
    have ih := few_bd l
    simp only [fewSum, List.length_cons]
    omega

theorem own_empty (w : World) (e : TypeId) : (w.alloc (.cells #[] e)).ownsRow w.heap.size e 1 (.slice (some ⟨w.heap.size, 0, none⟩) 0 0) 0 [] :=
  ⟨by simp, .inr ⟨w.heap.size, 0, #[], rfl, Nat.le_refl _, heap_alloc_new w _, Nat.le_refl _, by simp [maxLen], by simp, by simp⟩⟩

theorem info64 : (Tryz.prog.info? 2).map (fun i => (i.zero, i.size, i.bytes)) = some (some (.int .i64 0), 1, 8) := by kernel_rfl

set_option maxHeartbeats 400000 in
theorem clone_any (A : Option Addr) (cap : Nat) (zs : List Int) (w : World) (hr : RdI w w.heap.size A zs) (hl : zs.length ≤ 1099511627776) :
    Calls Tryz.prog 9 #[.slice A zs.length cap] w fun e w' => ∃ v, e = .returned v ∧ w'.ownsRow w.heap.size 2 1 v zs.length (zs.map (Value.int .i64)) ∧ Below w.heap.size w w' := by
  obtain ⟨i0, hi0, hz0, hz1, hz2⟩ := info_parts info64
  have hr' := Lib.hid (hr.alloc (Nat.le_refl _) (.cells #[] 2))
  have hb' := Lib.hid ((Below.refl w.heap.size w).alloc (Nat.le_refl _) (.cells #[] 2))
  have ho := Lib.hid (own_empty w 2)
  have HL := Lib.hid hl
  have H0 := Lib.hid (And.intro hi0 (And.intro hz0 (And.intro hz1 hz2)))
  clear hl hr hi0 hz0 hz1 hz2
  go_enter Tryz.func9, Tryz.ntmps9
  go_wp2_with (at_builtin; refine wpList_append_rd _ rfl _ _ 22 rfl w.heap.size 2 i0 (.int .i64 0) 8 Tryz.underlying22 H0.out.1 H0.out.2.1 H0.out.2.2.1 H0.out.2.2.2 rfl _ 0 [] rfl ho.out _ A zs.length cap (zs.map (Value.int .i64)) rfl (by simp) hr'.out (ints_one zs) (by have := HL.out; simp [maxLen]; omega) (by have := HL.out; simp; omega) (by simp) ?_; intro v' w1 hown hg _)
  have HO := Lib.hid hown
  have hB := Lib.hid (below_own hb'.out (Nat.le_refl _) (Nat.le_refl _) ho.out hg)
  clear hown hg
  go_wp2
  go_ret
  exact ⟨_, rfl, by simpa using HO.out, hB.out⟩

set_option maxHeartbeats 400000 in
theorem few_any (A : Option Addr) (cap : Nat) (vs : List (Option Addr × Nat × Nat)) (w : World) (hr : Rd w w.heap.size A (vs.map fun v => .slice v.1 v.2.1 v.2.2)) (hl : vs.length ≤ 60) :
    Calls Tryz.prog 4 #[.slice A vs.length cap] w fun e w' => e = .returned (.bool (decide (fewSum vs ≤ 1500))) ∧ w = w' := by
  go_enter Tryz.func4, Tryz.ntmps4
  go_wp2
  go_loop [3, 4] (fun n i => ∃ k : Nat, k ≤ vs.length ∧ i = .int .i64 k ∧ n = .int .i64 (fewSum (vs.take k))) (fun _ i => vs.length - (intOf i).toNat)
  case atStart => exact ⟨0, Nat.zero_le _, rfl, rfl⟩
  case round =>
    obtain ⟨k, hk, rfl, rfl⟩ := hrel
    have bd := few_bd (vs.take k)
    have bl : (vs.take k).length ≤ 60 := by have := List.length_take_le k vs; omega
    by_cases hlt : k < vs.length
    · obtain ⟨b, off, rfl, hb, hc⟩ := hr (by simp; omega)
      obtain ⟨v, hv⟩ := get_some vs k hlt
      have c1 : w.cell? ⟨b, off + k, none⟩ = some (.slice v.1 v.2.1 v.2.2) := hc k _ (by simp [hv])
      have hs := Lib.hid (few_snoc vs k v hv)
      have hk100 : (k : Int) < 100 := by omega
      clear hv hc
      obtain ⟨bd1, bd2⟩ : (fewSum (vs.take k) : Int) ≤ 120000 ∧ (0 : Int) ≤ fewSum (vs.take k) := by omega
      clear bd bl
      go_wp2
      go_round
      case rel =>
        refine ⟨k + 1, by omega, by go_num, ?_⟩
        rw [hs.out]
        congr 1
        split <;> omega
      case measure => simp [intOf]; omega
    · have ht : Hid (vs.take k = vs) := Lib.hid (List.take_of_length_le (by omega))
      have hl60 : (vs.length : Int) ≤ 60 := by omega
      go_wp2
      go_ret
      exact ⟨ret_bool (by rw [ht.out]; exact decide_eq_decide.2 (by omega)), rfl⟩

end Go.Proofs.YtoafihjgpbcgbaaGreat
