/- Walks: the tags of the reference: Right, Pack, Unpack, Phase. Conditions: none. -/
import Derived.Test.YtajilipbnfpemaaDoorTagUnpack
namespace Go.Proofs.YtajilipbnfpemaaDoor
open Go.RowKit

def sbcL (t : Tg) : List Int := [t.a, t.b, t.c]
theorem sbc_all {t : Tg} (h : ∀ (j : Nat) (x : Int), j < 3 → (sbcL t)[j]? = some x → 0 ≤ x ∧ x ≤ 1048575) : (0 ≤ t.a ∧ t.a < 1048576) ∧ (0 ≤ t.b ∧ t.b < 1048576) ∧ (0 ≤ t.c ∧ t.c < 1048576) := by
  have h0 := h 0 _ (by decide) rfl
  have h1 := h 1 _ (by decide) rfl
  have h2 := h 2 _ (by decide) rfl
  omega
theorem sbc_not {t : Tg} {k : Nat} {x : Int} (hx : (sbcL t)[k]? = some x) (hn : ¬ (0 ≤ x ∧ x ≤ 1048575)) : ¬ tagOk t := by
  rintro ⟨h0, h1, h2, h3, h4⟩
  match k, hx with
  | 0, hx => simp [sbcL] at hx; omega
  | 1, hx => simp [sbcL] at hx; omega
  | 2, hx => simp [sbcL] at hx; omega
  | k + 3, hx => simp [sbcL] at hx

set_option maxHeartbeats 1000000 in
theorem refRight_any (t : Tg) (w : World) : Calls Tryd.prog 15 #[tgV t] w fun e w' => e = .returned (.bool (decide (tagOk t))) ∧ Below w.heap.size w w' := by
  have HX := Lib.hid (fun (k : Nat) (hk : k < 3) => (⟨(sbcL t)[k], List.getElem?_eq_getElem hk⟩ : ∃ x, (sbcL t)[k]? = some x))
  have HN := Lib.hid (fun (k : Nat) (x : Int) (hx : (sbcL t)[k]? = some x) (hn : ¬ (0 ≤ x ∧ x ≤ 1048575)) => sbc_not hx hn)
  have HA := Lib.hid (fun h => sbc_all (t := t) h)
  have HT := Lib.hid (show tagOk t ↔ (0 ≤ t.a ∧ t.a < 1048576) ∧ (0 ≤ t.b ∧ t.b < 1048576) ∧ (0 ≤ t.p ∧ t.p < 2) ∧ (0 ≤ t.r ∧ t.r < 63) ∧ (0 ≤ t.c ∧ t.c < 1048576) from Iff.rfl)
  obtain ⟨a, b, p, r, c⟩ := t
  unfold tgV
  dsimp only at HA HT ⊢
  have HB := Lib.hid (((Below.refl w.heap.size w).alloc (Nat.le_refl _) (.cells #[.int .i64 a, .int .i64 b, .int .i64 p, .int .i64 r, .int .i64 c] 23)).alloc (by simp) (.cells #[.int .i64 a, .int .i64 b, .int .i64 c] 3))
  have HZ := Lib.hid (blk_alloc (heap_alloc_new w (.cells #[.int .i64 a, .int .i64 b, .int .i64 p, .int .i64 r, .int .i64 c] 23)) (.cells #[.int .i64 a, .int .i64 b, .int .i64 c] 3))
  have HY := Lib.hid (blk_new (show (w.alloc (.cells #[.int .i64 a, .int .i64 b, .int .i64 p, .int .i64 r, .int .i64 c] 23)).heap.size = w.heap.size + 1 by simp) (.cells #[.int .i64 a, .int .i64 b, .int .i64 c] 3))
  go_enter Tryd.func15, Tryd.ntmps15
  go_wp2_with fail
  go_loop [4] (fun i => ∃ k : Nat, k ≤ 3 ∧ i = .int .i64 k ∧ ∀ (j : Nat) (x : Int), j < k → (sbcL ⟨a, b, p, r, c⟩)[j]? = some x → 0 ≤ x ∧ x ≤ 1048575) (fun i => 3 - (intOf i).toNat)
  case atStart => exact ⟨0, by decide, rfl, fun _ _ h => absurd h (Nat.not_lt_zero _)⟩
  case round =>
    obtain ⟨k, hk, rfl, hok⟩ := hrel
    by_cases hlt : k < 3
    · obtain ⟨x, hx⟩ := HX.out k hlt
      have c1 := intsA_cell (l := sbcL ⟨a, b, p, r, c⟩) HY.out hx
      have HK := Lib.hid (And.intro hok hx)
      clear hok hx
      by_cases h0 : x < 0
      · have HF := Lib.hid (HN.out k x HK.out.2 (by omega))
        go_wp2_with fail
        go_ret
        exact ⟨ret_bool (decide_eq_false HF.out).symm, HB.out⟩
      · by_cases h1 : 1048575 < x
        · have HF := Lib.hid (HN.out k x HK.out.2 (by omega))
          go_wp2_with fail
          go_ret
          exact ⟨ret_bool (decide_eq_false HF.out).symm, HB.out⟩
        · have HG := Lib.hid (show ∀ (j : Nat) (y : Int), j < k + 1 → (sbcL ⟨a, b, p, r, c⟩)[j]? = some y → 0 ≤ y ∧ y ≤ 1048575 from fun j y hj hy => by
            rcases Nat.lt_or_ge j k with h | h
            · exact HK.out.1 j y h hy
            · have : j = k := by omega
              subst this
              rw [HK.out.2] at hy
              injection hy with hy
              omega)
          go_wp2_with fail
          go_round
          case rel => exact ⟨k + 1, by omega, by go_num, HG.out⟩
          case measure => simp [intOf]; omega
    · have hke : k = 3 := by omega
      subst hke
      have HG := Lib.hid (HA.out hok)
      clear hok
      have c2 := blk_cell HZ.out 2
      have c3 := blk_cell HZ.out 3
      by_cases p0 : p = 0
      · by_cases r0 : 0 ≤ r
        · by_cases r1 : r ≤ 62
          · have HF := Lib.hid (show tagOk ⟨a, b, p, r, c⟩ from HT.out.2 ⟨HG.out.1, HG.out.2.1, by omega, by omega, HG.out.2.2⟩)
            subst p0
            go_wp2_with fail
            go_ret
            exact ⟨ret_bool (decide_eq_true HF.out).symm, HB.out⟩
          · have HF := Lib.hid (show ¬ tagOk ⟨a, b, p, r, c⟩ from fun h => by have := HT.out.1 h; omega)
            subst p0
            go_wp2_with fail
            go_ret
            exact ⟨ret_bool (decide_eq_false HF.out).symm, HB.out⟩
        · have HF := Lib.hid (show ¬ tagOk ⟨a, b, p, r, c⟩ from fun h => by have := HT.out.1 h; omega)
          subst p0
          go_wp2_with fail
          go_ret
          exact ⟨ret_bool (decide_eq_false HF.out).symm, HB.out⟩
      · have e0 : (p == 0) = false := beq_eq_false_iff_ne.2 p0
        by_cases p1 : p = 1
        · by_cases r0 : 0 ≤ r
          · by_cases r1 : r ≤ 62
            · have HF := Lib.hid (show tagOk ⟨a, b, p, r, c⟩ from HT.out.2 ⟨HG.out.1, HG.out.2.1, by omega, by omega, HG.out.2.2⟩)
              subst p1
              go_wp2_with fail
              go_ret
              exact ⟨ret_bool (decide_eq_true HF.out).symm, HB.out⟩
            · have HF := Lib.hid (show ¬ tagOk ⟨a, b, p, r, c⟩ from fun h => by have := HT.out.1 h; omega)
              subst p1
              go_wp2_with fail
              go_ret
              exact ⟨ret_bool (decide_eq_false HF.out).symm, HB.out⟩
          · have HF := Lib.hid (show ¬ tagOk ⟨a, b, p, r, c⟩ from fun h => by have := HT.out.1 h; omega)
            subst p1
            go_wp2_with fail
            go_ret
            exact ⟨ret_bool (decide_eq_false HF.out).symm, HB.out⟩
        · have e1 : (p == 1) = false := beq_eq_false_iff_ne.2 p1
          have HF := Lib.hid (show ¬ tagOk ⟨a, b, p, r, c⟩ from fun h => by have := HT.out.1 h; omega)
          clear p0 p1
          go_wp2_with fail
          go_ret
          exact ⟨ret_bool (decide_eq_false HF.out).symm, HB.out⟩

/-- The words of a right tag, as the reference reckons them. -/
theorem refpack_word {a b p r c : Nat} (h : tagOk ⟨a, b, p, r, c⟩) : ∃ A q k C : Nat, IntKind.u64.wrap (a : Int) = a ∧ IntKind.u64.wrap (b : Int) = b ∧ IntKind.u64.wrap (c : Int) = c ∧ IntKind.u64.wrap ((a : Int) * 1048576) = (A : Int) ∧ IntKind.u64.wrap ((A : Int) + (b : Int)) = packA ⟨a, b, p, r, c⟩ ∧
    wrap64 ((p : Int) * 64) = (q : Int) ∧ wrap64 ((q : Int) + (r : Int)) = (k : Int) ∧ IntKind.u64.wrap (k : Int) = (k : Int) ∧ IntKind.u64.wrap ((k : Int) * 1048576) = (C : Int) ∧ IntKind.u64.wrap ((C : Int) + (c : Int)) = packB ⟨a, b, p, r, c⟩ := by
  unfold tagOk at h
  dsimp only at h
  refine ⟨a * 1048576, p * 64, p * 64 + r, (p * 64 + r) * 1048576, ?_, ?_, ?_, ?_, ?_, ?_, ?_, ?_, ?_, ?_⟩
  · rw [IntKind.wrap_u64]; omega
  · rw [IntKind.wrap_u64]; omega
  · rw [IntKind.wrap_u64]; omega
  · rw [IntKind.wrap_u64]; omega
  · rw [IntKind.wrap_u64]; unfold packA; dsimp only; omega
  · unfold wrap64; omega
  · unfold wrap64; omega
  · rw [IntKind.wrap_u64]; omega
  · rw [IntKind.wrap_u64]; omega
  · rw [IntKind.wrap_u64]; unfold packB; dsimp only; omega

set_option maxHeartbeats 1000000 in
theorem refPack_any (t : Tg) (hok : tagOk t) (w : World) : Calls Tryd.prog 19 #[tgV t] w fun e w' => e = .returned (.agg #[.int .u64 (packA t), .int .u64 (packB t)]) ∧ Below w.heap.size w w' := by
  obtain ⟨a, b, p, r, c, rfl⟩ := tag_nat hok
  obtain ⟨A, q, k, C, e1, e2, e3, e4, e5, e6, e7, e8, e9, e10⟩ := refpack_word hok
  generalize packA ⟨a, b, p, r, c⟩ = PA at e5 ⊢
  generalize packB ⟨a, b, p, r, c⟩ = PB at e10 ⊢
  unfold tgV
  dsimp only
  have HB := Lib.hid ((Below.refl w.heap.size w).alloc (Nat.le_refl _) (.cells #[.int .i64 a, .int .i64 b, .int .i64 p, .int .i64 r, .int .i64 c] 23))
  clear hok
  go_enter Tryd.func19, Tryd.ntmps19
  go_wp2_with fail
  refine bodyPost_ret (v := .agg #[.int .u64 PA, .int .u64 PB]) ?_ rfl ⟨rfl, HB.out.alloc (by simp) _⟩
  simp [results, Tryd.results19, go_sem]

theorem refPhase_any (n : Int) (w : World) : Calls Tryd.prog 32 #[.int .i64 n] w fun e w' => e = .returned (.string ⟨(phaseL n).toArray⟩) ∧ w = w' := by
  by_cases h0 : n = 0
  · subst h0
    go_enter Tryd.func32, Tryd.ntmps32
    go_wp2
    go_ret
    exact ⟨rfl, rfl⟩
  · by_cases h1 : n = 1
    · subst h1
      go_enter Tryd.func32, Tryd.ntmps32
      go_wp2
      go_ret
      exact ⟨rfl, rfl⟩
    · have e0 : (n == 0) = false := beq_eq_false_iff_ne.2 h0
      have e1 : (n == 1) = false := beq_eq_false_iff_ne.2 h1
      have HE := Lib.hid (show phaseL n = [] by simp [phaseL, h0, h1])
      clear h0 h1
      go_enter Tryd.func32, Tryd.ntmps32
      go_wp2
      go_ret
      exact ⟨by rw [HE.out]; rfl, rfl⟩

end Go.Proofs.YtajilipbnfpemaaDoor
