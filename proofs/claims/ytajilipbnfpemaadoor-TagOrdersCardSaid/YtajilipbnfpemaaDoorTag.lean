/- Walks: the tags of the program: Right, Phase, Pack, Unpack. Conditions: none. -/
import Derived.Test.YtajilipbnfpemaaDoorTagPlain
import Derived.Test.YtajilipbnfpemaaDoorWords
import Derived.Laws.BitsAllLaws
import Derived.Laws.BitsLemmas
import Derived.BigQuiet
namespace Go.Proofs.YtajilipbnfpemaaDoor
open Go.RowKit

def tgV (t : Tg) : Value := .agg #[.int .i64 t.a, .int .i64 t.b, .int .i64 t.p, .int .i64 t.r, .int .i64 t.c]
def partsL (t : Tg) : List Int := [t.a, t.b, t.p, t.r, t.c]
def limL : List Int := [1048576, 1048576, 2, 63, 1048576]
def intsA (l : List Int) : Array Value := (l.map (Value.int .i64)).toArray
def okTo (t : Tg) (k : Nat) : Prop := ∀ (j : Nat) (x l : Int), j < k → (partsL t)[j]? = some x → limL[j]? = some l → 0 ≤ x ∧ x < l
theorem okTo_zero (t : Tg) : okTo t 0 := fun _ _ _ h => absurd h (Nat.not_lt_zero _)
theorem okTo_succ {t : Tg} {k : Nat} {x l : Int} (h : okTo t k) (hx : (partsL t)[k]? = some x) (hl : limL[k]? = some l) (hk : 0 ≤ x ∧ x < l) : okTo t (k + 1) := by
  intro j y m hj hy hm
  rcases Nat.lt_or_ge j k with h1 | h1
  · exact h j y m h1 hy hm
  · have : j = k := by omega
    subst this
    rw [hx] at hy
    rw [hl] at hm
    injection hy with hy
    injection hm with hm
    omega
theorem okTo_all {t : Tg} (h : okTo t 5) : tagOk t :=
  ⟨h 0 _ _ (by decide) rfl rfl, h 1 _ _ (by decide) rfl rfl, h 2 _ _ (by decide) rfl rfl, h 3 _ _ (by decide) rfl rfl, h 4 _ _ (by decide) rfl rfl⟩
theorem okTo_not {t : Tg} {k : Nat} {x l : Int} (hx : (partsL t)[k]? = some x) (hl : limL[k]? = some l) (hn : ¬ (0 ≤ x ∧ x < l)) : ¬ tagOk t := by
  rintro ⟨h0, h1, h2, h3, h4⟩
  match k, hx, hl with
  | 0, hx, hl => simp [partsL, limL] at hx hl; omega
  | 1, hx, hl => simp [partsL, limL] at hx hl; omega
  | 2, hx, hl => simp [partsL, limL] at hx hl; omega
  | 3, hx, hl => simp [partsL, limL] at hx hl; omega
  | 4, hx, hl => simp [partsL, limL] at hx hl; omega
  | k + 5, hx, hl => simp [partsL] at hx
theorem intsA_cell {w : World} {g k : Nat} {t : TypeId} {l : List Int} {x : Int} (h : w.heap[g]? = some (.cells (intsA l) t (0, 0))) (hx : l[k]? = some x) : w.cell? ⟨g, k, none⟩ = some (.int .i64 x) := by
  rw [blk_cell h]
  simp [intsA, hx]

theorem blk_new {w : World} {n : Nat} (h : w.heap.size = n) (o : Obj) : (w.alloc o).heap[n]? = some o := by subst h; exact heap_alloc_new w o

set_option maxHeartbeats 400000 in
theorem parts_any (t : Tg) (w : World) : Calls Tryd.prog 48 #[tgV t] w fun e w' => e = .returned (.agg #[.int .i64 t.a, .int .i64 t.b, .int .i64 t.p, .int .i64 t.r, .int .i64 t.c]) ∧ Below w.heap.size w w' := by
  obtain ⟨a, b, p, r, c⟩ := t
  have HB := Lib.hid ((Below.refl w.heap.size w).alloc (Nat.le_refl _) (.cells #[.int .i64 a, .int .i64 b, .int .i64 p, .int .i64 r, .int .i64 c] 23))
  unfold tgV
  dsimp only
  go_enter Tryd.func48, Tryd.ntmps48
  go_wp2
  refine bodyPost_ret (v := .agg #[.int .i64 a, .int .i64 b, .int .i64 p, .int .i64 r, .int .i64 c]) ?_ rfl ⟨rfl, HB.out.alloc (by simp) _⟩
  simp [results, Tryd.results48, go_sem]

set_option maxHeartbeats 400000 in
theorem limits_any (w : World) : Calls Tryd.prog 49 #[] w fun e w' => e = .returned (.agg #[.int .i64 1048576, .int .i64 1048576, .int .i64 2, .int .i64 63, .int .i64 1048576]) ∧ Below w.heap.size w w' := by
  have HB := Lib.hid ((Below.refl w.heap.size w).alloc (Nat.le_refl _) (.cells #[.int .i64 1048576, .int .i64 1048576, .int .i64 2, .int .i64 63, .int .i64 1048576] 69))
  go_enter Tryd.func49, Tryd.ntmps49
  go_wp2
  refine bodyPost_ret (v := .agg #[.int .i64 1048576, .int .i64 1048576, .int .i64 2, .int .i64 63, .int .i64 1048576]) ?_ rfl ⟨rfl, HB.out⟩
  simp [results, Tryd.results49, go_sem]

set_option maxHeartbeats 1000000 in
theorem right_any (t : Tg) (w : World) : Calls Tryd.prog 16 #[tgV t] w fun e w' => e = .returned (.bool (decide (tagOk t))) ∧ Below w.heap.size w w' := by
  have HP := Lib.hid (fun W => parts_any t W)
  have HL := Lib.hid (fun W => limits_any W)
  have hxl : ∀ k, k < 5 → ∃ x l, (partsL t)[k]? = some x ∧ limL[k]? = some l := fun k hk =>
    ⟨(partsL t)[k], limL[k], List.getElem?_eq_getElem hk, List.getElem?_eq_getElem hk⟩
  have HX := Lib.hid hxl
  have HO := Lib.hid (fun (k : Nat) (x l : Int) (h : okTo t k) (hx : (partsL t)[k]? = some x) (hl : limL[k]? = some l) (hk : 0 ≤ x ∧ x < l) => okTo_succ h hx hl hk)
  have HN := Lib.hid (fun (k : Nat) (x l : Int) (hx : (partsL t)[k]? = some x) (hl : limL[k]? = some l) (hn : ¬ (0 ≤ x ∧ x < l)) => okTo_not hx hl hn)
  clear hxl
  obtain ⟨a, b, p, r, c⟩ := t
  unfold tgV at HP ⊢
  dsimp only at HP ⊢
  have HB := Lib.hid ((Below.refl w.heap.size w).alloc (Nat.le_refl _) (.cells #[.int .i64 a, .int .i64 b, .int .i64 p, .int .i64 r, .int .i64 c] 23))
  go_enter Tryd.func16, Tryd.ntmps16
  go_wp2_with fail
  (with_reducible refine (HP.out _).mono ?_)
  rintro e w1 ⟨rfl, hb1⟩
  have HB1 := Lib.hid (HB.out.trans (hb1.mono (by simp)))
  clear hb1 HP
  go_wp2_with fail
  (with_reducible refine (HL.out _).mono ?_)
  rintro e w2 ⟨rfl, hb2⟩
  have HB2 := Lib.hid (HB1.out.trans (hb2.mono HB1.out.size))
  clear hb2 HL
  have z1 := heap_alloc_new w2 (.cells #[.int .i64 a, .int .i64 b, .int .i64 p, .int .i64 r, .int .i64 c] 69)
  have z2 := blk_alloc z1 (.cells #[.int .i64 1048576, .int .i64 1048576, .int .i64 2, .int .i64 63, .int .i64 1048576] 69)
  have z3 := blk_new (show (w2.alloc (.cells #[.int .i64 a, .int .i64 b, .int .i64 p, .int .i64 r, .int .i64 c] 69)).heap.size = w2.heap.size + 1 by simp) (.cells #[.int .i64 1048576, .int .i64 1048576, .int .i64 2, .int .i64 63, .int .i64 1048576] 69)
  have hb3 := (HB2.out.alloc HB2.out.size (.cells #[.int .i64 a, .int .i64 b, .int .i64 p, .int .i64 r, .int .i64 c] 69)).alloc (by have := HB2.out.size; simp; omega) (.cells #[.int .i64 1048576, .int .i64 1048576, .int .i64 2, .int .i64 63, .int .i64 1048576] 69)
  have Z1 := Lib.hid z2
  have Z2 := Lib.hid z3
  have HB3 := Lib.hid hb3
  clear z1 z2 z3 hb3
  go_wp2_with fail
  go_loopw [5, 9] (fun _ i wr => ∃ k : Nat, k ≤ 5 ∧ i = .int .i64 k ∧ okTo ⟨a, b, p, r, c⟩ k ∧ Hid (wr.heap[w2.heap.size]? = some (.cells (intsA (partsL ⟨a, b, p, r, c⟩)) 69 (0, 0))) ∧ Hid (wr.heap[w2.heap.size + 1]? = some (.cells (intsA limL) 69 (0, 0))) ∧ Hid (Below w.heap.size w wr)) (fun _ i _ => 5 - (intOf i).toNat)
  case atStart => exact ⟨0, by decide, rfl, okTo_zero _, Z1, Z2, HB3⟩
  case round =>
    obtain ⟨k, hk, rfl, hok, Y1, Y2, HBk⟩ := hrel
    have hlt1 := blk_lt Y1.out
    have hlt2 := blk_lt Y2.out
    by_cases hlt : k < 5
    · obtain ⟨x, l, hx, hl⟩ := HX.out k hlt
      have c1 := intsA_cell Y1.out hx
      have c2 := intsA_cell Y2.out hl
      have HK := Lib.hid (And.intro hok (And.intro hx hl))
      clear hok hx hl
      by_cases h0 : x < 0
      · have HF := Lib.hid (HN.out k x l HK.out.2.1 HK.out.2.2 (by omega))
        go_wp2_with fail
        go_quiet (fail)
        go_wp2_with fail
        go_ret
        exact ⟨ret_bool (decide_eq_false HF.out).symm, below_drewN HBk.out _⟩
      · by_cases h1 : x < l
        · have HG := Lib.hid (HO.out k x l HK.out.1 HK.out.2.1 HK.out.2.2 (by omega))
          go_wp2_with fail
          go_quiet (fail)
          go_wp2_with fail
          go_roundw
          case rel => exact ⟨k + 1, by omega, by go_num, HG.out, Lib.hid (blk_drewN Y1.out _), Lib.hid (blk_drewN Y2.out _), Lib.hid (below_drewN HBk.out _)⟩
          case measure => simp [intOf]; omega
        · have HF := Lib.hid (HN.out k x l HK.out.2.1 HK.out.2.2 (by omega))
          go_wp2_with fail
          go_quiet (fail)
          go_wp2_with fail
          go_ret
          exact ⟨ret_bool (decide_eq_false HF.out).symm, below_drewN HBk.out _⟩
    · have hke : k = 5 := by omega
      subst hke
      have HG := Lib.hid (okTo_all hok)
      clear hok
      go_wp2_with fail
      go_ret
      exact ⟨ret_bool (decide_eq_true HG.out).symm, HBk.out⟩

theorem phase_any (n : Int) (w : World) : Calls Tryd.prog 31 #[.int .i64 n] w fun e w' => e = .returned (.string ⟨(phaseL n).toArray⟩) ∧ w = w' := by
  by_cases h0 : n = 0
  · subst h0
    go_enter Tryd.func31, Tryd.ntmps31
    go_wp2
    go_ret
    exact ⟨rfl, rfl⟩
  · by_cases h1 : n = 1
    · subst h1
      go_enter Tryd.func31, Tryd.ntmps31
      go_wp2
      go_ret
      exact ⟨rfl, rfl⟩
    · have e0 : (n == 0) = false := beq_eq_false_iff_ne.2 h0
      have e1 : (n == 1) = false := beq_eq_false_iff_ne.2 h1
      have HE := Lib.hid (show phaseL n = [] by simp [phaseL, h0, h1])
      clear h0 h1
      go_enter Tryd.func31, Tryd.ntmps31
      go_wp2
      go_ret
      exact ⟨by rw [HE.out]; rfl, rfl⟩

def packV (t : Tg) : Value := .agg (if tagOk t then #[.int .u64 (packA t), .int .u64 (packB t)] else #[.int .u64 0, .int .u64 0])

theorem i64_or_nat (a b : Nat) (ha : a < 9223372036854775808) (hb : b < 9223372036854775808) : bits .or .i64 (a : Int) (b : Int) = ((a ||| b : Nat) : Int) := by
  have hx : a ||| b < 2 ^ 63 := Nat.or_lt_two_pow (by omega) (by omega)
  have e : ∀ a : Nat, a < 9223372036854775808 → (BitVec.ofInt 64 (a : Int)).toNat = a := fun a h => by
    rw [BitVec.ofInt_natCast, BitVec.toNat_ofNat]; exact Nat.mod_eq_of_lt (by omega)
  show IntKind.i64.wrap ((BitVec.ofInt 64 (a : Int) ||| BitVec.ofInt 64 (b : Int)).toNat : Int) = _
  rw [BitVec.toNat_or, e a ha, e b hb, IntKind.wrap_i64]
  omega
theorem i64_and_nat (a b : Nat) (ha : a < 9223372036854775808) (hb : b < 9223372036854775808) : bits .and .i64 (a : Int) (b : Int) = ((a &&& b : Nat) : Int) := by
  have hx : a &&& b < 2 ^ 63 := Nat.and_lt_two_pow _ (by omega)
  have e : ∀ a : Nat, a < 9223372036854775808 → (BitVec.ofInt 64 (a : Int)).toNat = a := fun a h => by
    rw [BitVec.ofInt_natCast, BitVec.toNat_ofNat]; exact Nat.mod_eq_of_lt (by omega)
  show IntKind.i64.wrap ((BitVec.ofInt 64 (a : Int) &&& BitVec.ofInt 64 (b : Int)).toNat : Int) = _
  rw [BitVec.toNat_and, e a ha, e b hb, IntKind.wrap_i64]
  omega

/-- The words of a right tag. -/
theorem pack_word {a b p r c : Nat} (h : tagOk ⟨a, b, p, r, c⟩) : ∃ A q k C : Nat, IntKind.u64.wrap (a : Int) = a ∧ IntKind.u64.wrap (b : Int) = b ∧ IntKind.u64.wrap (c : Int) = c ∧ IntKind.u64.wrap ((a : Int) * 1048576) = (A : Int) ∧ bits .or .u64 (A : Int) (b : Int) = packA ⟨a, b, p, r, c⟩ ∧
    wrap64 ((p : Int) * 64) = (q : Int) ∧ bits .or .i64 (q : Int) (r : Int) = (k : Int) ∧ IntKind.u64.wrap (k : Int) = (k : Int) ∧ IntKind.u64.wrap ((k : Int) * 1048576) = (C : Int) ∧ bits .or .u64 (C : Int) (c : Int) = packB ⟨a, b, p, r, c⟩ := by
  unfold tagOk at h
  dsimp only at h
  obtain ⟨ha, hb, hp, hr, hc⟩ := h
  have o1 := Nat.two_pow_add_eq_or_of_lt (i := 20) (b := b) (by omega) a
  have o2 := Nat.two_pow_add_eq_or_of_lt (i := 6) (b := r) (by omega) p
  have o3 := Nat.two_pow_add_eq_or_of_lt (i := 20) (b := c) (by omega) (2 ^ 6 * p + r)
  refine ⟨2 ^ 20 * a, 2 ^ 6 * p, 2 ^ 6 * p + r, 2 ^ 20 * (2 ^ 6 * p + r), ?_, ?_, ?_, ?_, ?_, ?_, ?_, ?_, ?_, ?_⟩
  · rw [IntKind.wrap_u64]; omega
  · rw [IntKind.wrap_u64]; omega
  · rw [IntKind.wrap_u64]; omega
  · rw [IntKind.wrap_u64]; omega
  · rw [u64_or_nat _ _ (by omega) (by omega), ← o1]; unfold packA; dsimp only; omega
  · unfold wrap64; omega
  · rw [i64_or_nat _ _ (by omega) (by omega), ← o2]
  · rw [IntKind.wrap_u64]; omega
  · rw [IntKind.wrap_u64]; omega
  · rw [u64_or_nat _ _ (by omega) (by omega), ← o3]; unfold packB; dsimp only; omega

theorem tag_nat {t : Tg} (h : tagOk t) : ∃ a b p r c : Nat, t = ⟨a, b, p, r, c⟩ := by
  obtain ⟨a, b, p, r, c⟩ := t
  unfold tagOk at h
  dsimp only at h
  exact ⟨a.toNat, b.toNat, p.toNat, r.toNat, c.toNat, by simp only [Tg.mk.injEq]; omega⟩

set_option maxHeartbeats 1000000 in
theorem pack_any (t : Tg) (w : World) : Calls Tryd.prog 14 #[tgV t] w fun e w' => e = .returned (.tuple #[packV t, .bool (decide (tagOk t))]) ∧ Below w.heap.size w w' := by
  have HR := Lib.hid (fun W => right_any t W)
  by_cases hok : tagOk t
  · rw [decide_eq_true hok] at HR ⊢
    have HP := Lib.hid (show packV t = .agg #[.int .u64 (packA t), .int .u64 (packB t)] by simp [packV, hok])
    obtain ⟨a, b, p, r, c, rfl⟩ := tag_nat hok
    obtain ⟨A, q, k, C, e1, e2, e3, e4, e5, e6, e7, e8, e9, e10⟩ := pack_word hok
    rw [HP.out]
    generalize packA ⟨a, b, p, r, c⟩ = PA at e5 ⊢
    generalize packB ⟨a, b, p, r, c⟩ = PB at e10 ⊢
    unfold tgV at HR ⊢
    dsimp only at HR ⊢
    have HB := Lib.hid ((Below.refl w.heap.size w).alloc (Nat.le_refl _) (.cells #[.int .i64 a, .int .i64 b, .int .i64 p, .int .i64 r, .int .i64 c] 23))
    clear hok HP
    have z1 := heap_alloc_new w (.cells #[.int .i64 a, .int .i64 b, .int .i64 p, .int .i64 r, .int .i64 c] 23)
    go_enter Tryd.func14, Tryd.ntmps14
    go_wp2_with fail
    (with_reducible refine (HR.out _).mono ?_)
    rintro e w1 ⟨rfl, hb1⟩
    have Z1 := Lib.hid (blk_below (blk_alloc z1 (.cells #[.int .u64 0, .int .u64 0] 25)) hb1 (by rw [World.size_alloc, World.size_alloc]; omega))
    have Z2 := Lib.hid (blk_below (blk_new (show (w.alloc (.cells #[.int .i64 a, .int .i64 b, .int .i64 p, .int .i64 r, .int .i64 c] 23)).heap.size = w.heap.size + 1 by simp) (.cells #[.int .u64 0, .int .u64 0] 25)) hb1 (by rw [World.size_alloc, World.size_alloc]; omega))
    have HB1 := Lib.hid ((HB.out.alloc (by simp) (.cells #[.int .u64 0, .int .u64 0] 25)).trans (hb1.mono (by rw [World.size_alloc, World.size_alloc]; omega)))
    clear hb1 z1
    have c0 := blk_cell Z1.out 0
    have c1 := blk_cell Z1.out 1
    have c2 := blk_cell Z1.out 2
    have c3 := blk_cell Z1.out 3
    have c4 := blk_cell Z1.out 4
    have d0 := blk_cell Z2.out 0
    have d1 := blk_cell Z2.out 1
    have z0 := blk_frozen Z2.out 0
    have z1 := blk_frozen Z2.out 1
    have l1 := blk_lt Z1.out
    have l2 := blk_lt Z2.out
    go_wp2_with fail
    have s0 := blk_set Z2.out 0 (.int .u64 PA)
    have s1 := blk_set s0 1 (.int .u64 PB)
    have k0 := blk_cell s1 0
    have k1 := blk_cell s1 1
    refine bodyPost_ret (v := .tuple #[.agg #[.int .u64 PA, .int .u64 PB], .bool true]) ?_ rfl ⟨rfl, (HB1.out.setCell (by simp) _).setCell (by simp) _⟩
    simp [results, Tryd.results14, go_sem] at k0 k1 ⊢
    simp [k0, k1]
  · rw [decide_eq_false hok] at HR ⊢
    have HP := Lib.hid (show packV t = .agg #[.int .u64 0, .int .u64 0] by simp [packV, hok])
    rw [HP.out]
    clear hok HP
    obtain ⟨a, b, p, r, c⟩ := t
    unfold tgV at HR ⊢
    dsimp only at HR ⊢
    have HB := Lib.hid ((Below.refl w.heap.size w).alloc (Nat.le_refl _) (.cells #[.int .i64 a, .int .i64 b, .int .i64 p, .int .i64 r, .int .i64 c] 23))
    go_enter Tryd.func14, Tryd.ntmps14
    go_wp2_with fail
    (with_reducible refine (HR.out _).mono ?_)
    rintro e w1 ⟨rfl, hb1⟩
    have Z2 := Lib.hid (blk_below (blk_new (show (w.alloc (.cells #[.int .i64 a, .int .i64 b, .int .i64 p, .int .i64 r, .int .i64 c] 23)).heap.size = w.heap.size + 1 by simp) (.cells #[.int .u64 0, .int .u64 0] 25)) hb1 (by rw [World.size_alloc, World.size_alloc]; omega))
    have HB1 := Lib.hid ((HB.out.alloc (by simp) (.cells #[.int .u64 0, .int .u64 0] 25)).trans (hb1.mono (by rw [World.size_alloc, World.size_alloc]; omega)))
    clear hb1
    have d0 := blk_cell Z2.out 0
    have d1 := blk_cell Z2.out 1
    have z0 := blk_frozen Z2.out 0
    have z1 := blk_frozen Z2.out 1
    have l2 := blk_lt Z2.out
    go_wp2_with fail
    have s0 := blk_set Z2.out 0 (.int .u64 0)
    have s1 := blk_set s0 1 (.int .u64 0)
    have k0 := blk_cell s1 0
    have k1 := blk_cell s1 1
    refine bodyPost_ret (v := .tuple #[.agg #[.int .u64 0, .int .u64 0], .bool false]) ?_ rfl ⟨rfl, (HB1.out.setCell (by simp) _).setCell (by simp) _⟩
    simp [results, Tryd.results14, go_sem] at k0 k1 ⊢
    simp [k0, k1]

end Go.Proofs.YtajilipbnfpemaaDoor
