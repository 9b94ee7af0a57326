/- Walks: the heads of a tag's text, tag.Text. Conditions: the table of powers of ten reads as listed. -/
import Derived.Test.YtajilipbnfpemaaDoorTag
import Derived.Test.YtajilipbnfpemaaDoorJoined
import Derived.Test.YtajilipbnfpemaaDoorPow
import Derived.Lib.ItoaLen
namespace Go.Proofs.YtajilipbnfpemaaDoor
open Go.RowKit

def headsV (p : Int) : Array Value := #[.string ⟨#[115]⟩, .string ⟨#[98]⟩, .string ⟨(phaseL p).toArray⟩, .string ⟨#[99]⟩]

set_option maxHeartbeats 400000 in
theorem heads_any (p : Int) (w : World) : Calls Tryd.prog 64 #[.int .i64 p] w fun e w' => e = .returned (.agg #[.string ⟨#[115]⟩, .string ⟨#[98]⟩, .string ⟨(phaseL p).toArray⟩, .string ⟨#[99]⟩]) ∧ Below w.heap.size w w' := by
  have HP := Lib.hid (fun W => phase_any p W)
  obtain ⟨s, hs⟩ : ∃ s : ByteArray, ⟨(phaseL p).toArray⟩ = s := ⟨_, rfl⟩
  rw [hs] at HP ⊢
  clear hs
  go_enter Tryd.func64, Tryd.ntmps64
  go_wp2_with fail
  (with_reducible refine (HP.out _).mono ?_)
  rintro e w1 ⟨rfl, rfl⟩
  go_wp2_with fail
  refine bodyPost_ret (v := .agg #[.string ⟨#[115]⟩, .string ⟨#[98]⟩, .string s, .string ⟨#[99]⟩]) ?_ rfl ⟨rfl, (Below.refl w.heap.size w).alloc (Nat.le_refl _) _⟩
  simp [results, Tryd.results64, go_sem]

set_option maxHeartbeats 1000000 in
theorem tagText_no (t : Tg) (h : ¬ tagOk t) (w : World) : Calls Tryd.prog 41 #[tgV t] w fun e w' => e = .returned (.string ⟨#[]⟩) ∧ Below w.heap.size w w' := by
  have HR := Lib.hid (fun W => right_any t W)
  rw [decide_eq_false h] at HR
  clear h
  obtain ⟨a, b, p, r, c⟩ := t
  unfold tgV at HR ⊢
  dsimp only at HR ⊢
  have HB := Lib.hid ((Below.refl w.heap.size w).alloc (Nat.le_refl _) (.cells #[.int .i64 a, .int .i64 b, .int .i64 p, .int .i64 r, .int .i64 c] 23))
  go_enter Tryd.func41, Tryd.ntmps41
  go_wp2_with fail
  (with_reducible refine (HR.out _).mono ?_)
  rintro e w1 ⟨rfl, hb1⟩
  have HB1 := Lib.hid (HB.out.trans (hb1.mono (by simp)))
  clear hb1 HB
  go_wp2_with fail
  go_ret
  exact ⟨rfl, HB1.out⟩

/-- A number's text behind a head. -/
theorem itoa_any (x : Int) (hx : In64 x) (B : Nat) (w : World) (hp : Pow B w) (_hB : B ≤ w.heap.size) : Calls Tryd.prog 65 #[.int .i64 x] w fun e w' => e = .returned (.string ⟨(Lib.itoa x).toArray⟩) ∧ Below w.heap.size w w' :=
  (Tryd.strconv_Itoa x hx.1 hx.2 w hp.here).mono fun _ _ ⟨he, _, _, hw⟩ => ⟨he, hw ▸ Lib.below_grow _ _ (Nat.le_refl _) _ _⟩

theorem tag_in {t : Tg} (h : tagOk t) : In64 t.a ∧ In64 t.b ∧ In64 t.r ∧ In64 t.c := by
  unfold tagOk at h
  unfold In64
  omega

theorem own_below {w w' : World} {base e size n : Nat} {v : Value} {xs : List Value} (h : w.ownsRow base e size v n xs) (hb : Below w.heap.size w w') : w'.ownsRow base e size v n xs := by
  rcases h.2 with ⟨rfl, h0⟩ | ⟨g, cap, cur, rfl, hg, hgh, h1⟩
  · exact ⟨h.1, .inl ⟨rfl, h0⟩⟩
  · exact ⟨h.1, .inr ⟨g, cap, cur, rfl, hg, (hb.block g (blk_lt hgh)).trans hgh, h1⟩⟩

theorem idx4_0 (x0 x1 x2 x3 : Int) (W : World) : (Instr.index 90 (.agg #[.int .i64 x0, .int .i64 x1, .int .i64 x2, .int .i64 x3]) (.int .i64 0)).run Tryd.prog W = .ok (.int .i64 x0) W := by
  simp [Instr.index, run_underlying Tryd.underlying90, asIntOf, go_sem]
theorem idx4_1 (x0 x1 x2 x3 : Int) (W : World) : (Instr.index 90 (.agg #[.int .i64 x0, .int .i64 x1, .int .i64 x2, .int .i64 x3]) (.int .i64 1)).run Tryd.prog W = .ok (.int .i64 x1) W := by
  simp [Instr.index, run_underlying Tryd.underlying90, asIntOf, go_sem]
theorem idx4_2 (x0 x1 x2 x3 : Int) (W : World) : (Instr.index 90 (.agg #[.int .i64 x0, .int .i64 x1, .int .i64 x2, .int .i64 x3]) (.int .i64 2)).run Tryd.prog W = .ok (.int .i64 x2) W := by
  simp [Instr.index, run_underlying Tryd.underlying90, asIntOf, go_sem]
theorem idx4_3 (x0 x1 x2 x3 : Int) (W : World) : (Instr.index 90 (.agg #[.int .i64 x0, .int .i64 x1, .int .i64 x2, .int .i64 x3]) (.int .i64 3)).run Tryd.prog W = .ok (.int .i64 x3) W := by
  simp [Instr.index, run_underlying Tryd.underlying90, asIntOf, go_sem]

theorem phase_len (p : Int) : (phaseL p).length ≤ 7 := by
  unfold phaseL
  split
  · decide
  · split <;> decide

set_option maxRecDepth 100000 in
set_option maxHeartbeats 4000000 in
theorem tagText_yes (t : Tg) (h : tagOk t) (B : Nat) (w : World) (hp : Pow B w) (hB : B ≤ w.heap.size) : Calls Tryd.prog 41 #[tgV t] w fun e w' => e = .returned (.string ⟨(tagText t).toArray⟩) ∧ Below w.heap.size w w' := by
  obtain ⟨i0, hi, hz0, hz1, hz2⟩ := info_parts infoStr
  have HI := Lib.hid (And.intro hi (And.intro hz0 (And.intro hz1 hz2)))
  have HR := Lib.hid (fun W => right_any t W)
  rw [decide_eq_true h] at HR
  have hin := tag_in h
  have HT := Lib.hid (show Lib.join (tagWords t) [46] = tagText t from rfl)
  have HTW := Lib.hid (show tagWords t = [115 :: Lib.itoa t.a, 98 :: Lib.itoa t.b, phaseL t.p ++ Lib.itoa t.r, 99 :: Lib.itoa t.c] from rfl)
  have IA := Lib.hid (fun W (hW : Below w.heap.size w W) => itoa_any t.a hin.1 B W (hp.on (hW.mono hB)) (Nat.le_trans hB hW.size))
  have IB := Lib.hid (fun W (hW : Below w.heap.size w W) => itoa_any t.b hin.2.1 B W (hp.on (hW.mono hB)) (Nat.le_trans hB hW.size))
  have IR := Lib.hid (fun W (hW : Below w.heap.size w W) => itoa_any t.r hin.2.2.1 B W (hp.on (hW.mono hB)) (Nat.le_trans hB hW.size))
  have IC := Lib.hid (fun W (hW : Below w.heap.size w W) => itoa_any t.c hin.2.2.2 B W (hp.on (hW.mono hB)) (Nat.le_trans hB hW.size))
  have HH := Lib.hid (fun W => heads_any t.p W)
  have HIN := Lib.hid hin
  clear h hin hi hz0 hz1 hz2
  obtain ⟨a, b, p, r, c⟩ := t
  dsimp only at HIN
  generalize tagText ⟨a, b, p, r, c⟩ = T at HT ⊢
  generalize tagWords ⟨a, b, p, r, c⟩ = TW at HT HTW
  unfold tgV at HR ⊢
  dsimp only at HR IA IB IR IC HH HTW ⊢
  have HB := Lib.hid ((Below.refl w.heap.size w).alloc (Nat.le_refl _) (.cells #[.int .i64 a, .int .i64 b, .int .i64 p, .int .i64 r, .int .i64 c] 23))
  have HZ := Lib.hid (heap_alloc_new w (.cells #[.int .i64 a, .int .i64 b, .int .i64 p, .int .i64 r, .int .i64 c] 23))
  go_enter Tryd.func41, Tryd.ntmps41
  go_wp2_with fail
  (with_reducible refine (HR.out _).mono ?_)
  rintro e w1 ⟨rfl, hb1⟩
  have HB1 := Lib.hid (HB.out.trans (hb1.mono (by simp)))
  have HZ1 := Lib.hid (blk_below HZ.out hb1 (by simp))
  clear hb1 HB HZ HR
  have c2 := blk_cell HZ1.out 2
  go_wp2_with fail
  (with_reducible refine (HH.out _).mono ?_)
  rintro e w2 ⟨rfl, hb2⟩
  have HB2 := Lib.hid (HB1.out.trans (hb2.mono HB1.out.size))
  have HZ2 := Lib.hid (blk_below HZ1.out hb2 (blk_lt HZ1.out))
  clear hb2 HB1 HZ1 HH c2
  have HB3 := Lib.hid (HB2.out.alloc HB2.out.size (.cells #[.string ⟨#[115]⟩, .string ⟨#[98]⟩, .string ⟨(phaseL p).toArray⟩, .string ⟨#[99]⟩] 88))
  have HZ3 := Lib.hid (blk_alloc HZ2.out (.cells #[.string ⟨#[115]⟩, .string ⟨#[98]⟩, .string ⟨(phaseL p).toArray⟩, .string ⟨#[99]⟩] 88))
  have HY3 := Lib.hid (heap_alloc_new w2 (.cells #[.string ⟨#[115]⟩, .string ⟨#[98]⟩, .string ⟨(phaseL p).toArray⟩, .string ⟨#[99]⟩] 88))
  have c0 := blk_cell HZ3.out 0
  have c1 := blk_cell HZ3.out 1
  have c3 := blk_cell HZ3.out 3
  have c4 := blk_cell HZ3.out 4
  have l1 := Lib.itoa_length_le a HIN.out.1.1 HIN.out.1.2
  have l2 := Lib.itoa_length_le b HIN.out.2.1.1 HIN.out.2.1.2
  have l3 := Lib.itoa_length_le r HIN.out.2.2.1.1 HIN.out.2.2.1.2
  have l4 := Lib.itoa_length_le c HIN.out.2.2.2.1 HIN.out.2.2.2.2
  have l5 := phase_len p
  have key : ∀ k : Nat, k < 4 → ∃ (hd nm : ByteArray) (x : Int), (#[.string ⟨#[115]⟩, .string ⟨#[98]⟩, .string ⟨(phaseL p).toArray⟩, .string ⟨#[99]⟩] : Array Value)[k]? = some (.string hd) ∧ (∀ W, (Instr.index 90 (.agg #[.int .i64 a, .int .i64 b, .int .i64 r, .int .i64 c]) (.int .i64 (k : Int))).run Tryd.prog W = .ok (.int .i64 x) W) ∧
      (∀ W, Below w.heap.size w W → Calls Tryd.prog 65 #[.int .i64 x] W fun e w' => e = .returned (.string nm) ∧ Below W.heap.size W w') ∧ hd.size + nm.size ≤ 9223372036854775807 ∧
      (([(⟨#[115]⟩ ++ ⟨(Lib.itoa a).toArray⟩ : ByteArray), (⟨#[98]⟩ ++ ⟨(Lib.itoa b).toArray⟩ : ByteArray), (⟨(phaseL p).toArray⟩ ++ ⟨(Lib.itoa r).toArray⟩ : ByteArray), (⟨#[99]⟩ ++ ⟨(Lib.itoa c).toArray⟩ : ByteArray)] : List ByteArray).map Value.string).take (k + 1) = (([(⟨#[115]⟩ ++ ⟨(Lib.itoa a).toArray⟩ : ByteArray), (⟨#[98]⟩ ++ ⟨(Lib.itoa b).toArray⟩ : ByteArray), (⟨(phaseL p).toArray⟩ ++ ⟨(Lib.itoa r).toArray⟩ : ByteArray), (⟨#[99]⟩ ++ ⟨(Lib.itoa c).toArray⟩ : ByteArray)] : List ByteArray).map Value.string).take k ++ [.string (hd ++ nm)] := by
    intro k hk
    have hc : k = 0 ∨ k = 1 ∨ k = 2 ∨ k = 3 := by omega
    rcases hc with rfl | rfl | rfl | rfl
    · exact ⟨_, _, a, rfl, idx4_0 a b r c, IA.out, by simp [ByteArray.size]; omega, rfl⟩
    · exact ⟨_, _, b, rfl, idx4_1 a b r c, IB.out, by simp [ByteArray.size]; omega, rfl⟩
    · exact ⟨_, _, r, rfl, idx4_2 a b r c, IR.out, by simp [ByteArray.size]; omega, rfl⟩
    · exact ⟨_, _, c, rfl, idx4_3 a b r c, IC.out, by simp [ByteArray.size]; omega, rfl⟩
  have HK := Lib.hid key
  have HXL := Lib.hid (show ([(⟨#[115]⟩ ++ ⟨(Lib.itoa a).toArray⟩ : ByteArray), (⟨#[98]⟩ ++ ⟨(Lib.itoa b).toArray⟩ : ByteArray), (⟨(phaseL p).toArray⟩ ++ ⟨(Lib.itoa r).toArray⟩ : ByteArray), (⟨#[99]⟩ ++ ⟨(Lib.itoa c).toArray⟩ : ByteArray)] : List ByteArray).map (·.data.toList) = [115 :: Lib.itoa a, 98 :: Lib.itoa b, phaseL p ++ Lib.itoa r, 99 :: Lib.itoa c] by
    have e : ∀ x y : List UInt8, ((⟨x.toArray⟩ : ByteArray) ++ ⟨y.toArray⟩).data.toList = x ++ y := fun x y => by rw [ByteArray.mk_append_mk]
    simp only [List.map_cons, List.map_nil]
    rw [show (⟨#[115]⟩ : ByteArray) = ⟨([115] : List UInt8).toArray⟩ from rfl, show (⟨#[98]⟩ : ByteArray) = ⟨([98] : List UInt8).toArray⟩ from rfl, show (⟨#[99]⟩ : ByteArray) = ⟨([99] : List UInt8).toArray⟩ from rfl, e, e, e, e]
    rfl)
  have HTL := Lib.hid (show T.length ≤ 140737488355328 by
    rw [← HT.out, HTW.out, Lib.join_length]
    simp [Lib.lens]
    omega)
  clear key l1 l2 l3 l4 l5 IA IB IR IC
  generalize hXS : ([(⟨#[115]⟩ ++ ⟨(Lib.itoa a).toArray⟩ : ByteArray), (⟨#[98]⟩ ++ ⟨(Lib.itoa b).toArray⟩ : ByteArray), (⟨(phaseL p).toArray⟩ ++ ⟨(Lib.itoa r).toArray⟩ : ByteArray), (⟨#[99]⟩ ++ ⟨(Lib.itoa c).toArray⟩ : ByteArray)] : List ByteArray) = XS at HK HXL
  have hXL : XS.length = 4 := by rw [← hXS]; rfl
  clear hXS
  have HO3 := Lib.hid (own_nil (w2.alloc (.cells #[.string ⟨#[115]⟩, .string ⟨#[98]⟩, .string ⟨(phaseL p).toArray⟩, .string ⟨#[99]⟩] 88)) w.heap.size 9 1)
  go_wp2_with fail
  clear c0 c1 c3 c4
  go_loopw [3, 5, 6, 22] (fun v _ _ i wr => ∃ k : Nat, k ≤ 4 ∧ i = .int .i64 k ∧ Hid (wr.ownsRow w.heap.size 9 1 v k ((XS.map Value.string).take k)) ∧ Hid (wr.heap[w2.heap.size]? = some (.cells #[.string ⟨#[115]⟩, .string ⟨#[98]⟩, .string ⟨(phaseL p).toArray⟩, .string ⟨#[99]⟩] 88 (0, 0))) ∧ Hid (Below w.heap.size w wr)) (fun _ _ _ i _ => 4 - (intOf i).toNat)
  case atStart => exact ⟨0, by decide, rfl, HO3, HY3, HB3⟩
  case round =>
    obtain ⟨k, hk, rfl, HOk, HYk, HBk⟩ := hrel
    by_cases hlt4 : k < 4
    · obtain ⟨hd, nm, x, hcell, hix, HX, hcat, hnx⟩ := HK.out k hlt4
      have HIX := Lib.hid HX
      have HNX := Lib.hid hnx
      have HCL := Lib.hid hcell
      clear HX hnx hcell
      have d : wr.cell? ⟨w2.heap.size, k, none⟩ = some (.string hd) := (blk_cell HYk.out k).trans HCL.out
      have hlt := blk_lt HYk.out
      go_wp2_with fail
      have hcat2 : (9223372036854775807 < hd.size + nm.size) = False := eq_false (Nat.not_lt.2 hcat)
      go_region_held3 (fun w' => w'.cell? ⟨w2.heap.size, k, none⟩ = some (.string hd))
        (first
          | exact (blk_cell HYk3.out k).trans HCL.out
          | exact (blk_cell HYk2.out k).trans HCL.out
          | exact (blk_cell (blk_alloc HYk1.out _) k).trans HCL.out
          | exact (blk_cell HYk1.out k).trans HCL.out
          | exact (blk_cell HYk.out k).trans HCL.out)
        (first
          | (go_at_call 65
             (with_reducible refine (HIX.out _ (below_drew HBk.out)).mono ?_)
             rintro e w9 ⟨rfl, hb9⟩
             have HYk1 := Lib.hid (blk_below (blk_drew HYk.out) hb9 (by exact hlt))
             have HBk1 := Lib.hid ((below_drew HBk.out).trans (hb9.mono HBk.out.size))
             have HOk1 := Lib.hid (own_below (w := wr.drew) HOk.out hb9)
             clear HYk HBk HOk hb9)
          | (refine wp_append_own _ _ _ 87 rfl w.heap.size 9 i0 (.string ByteArray.empty) 1 16 Tryd.underlying87 HI.out.1 HI.out.2.1 HI.out.2.2.1 HI.out.2.2.2 rfl (by decide) _ _ _ rfl (HOk1.out.alloc _) ⟨w9.heap.size, 0, none⟩ 1 1 [.string (hd ++ nm)] rfl rfl (fun j u hj => by
               match j, hj with
               | 0, hj => simp at hj; subst hj; simp [Addr.add]) (fun u hu => by simp at hu; subst hu; rfl) (by unfold maxLen; omega) (by omega) (by have := HBk1.out.size; simp; omega) ?_
             intro v' w8 hown' hgrow _
             have HYk2 := Lib.hid (blk_grown (blk_alloc HYk1.out _) hgrow (fun h => own_ne HOk1.out HYk1.out (by decide) h.symm))
             have HBk2 := Lib.hid (below_own (HBk1.out.alloc HBk1.out.size _) (Nat.le_refl _) (Nat.le_refl _) (HOk1.out.alloc _) hgrow)
             have HOk2 := Lib.hid hown'
             clear hown' hgrow HYk1 HBk1 HOk1))
      go_wp2_with fail
      go_roundw
      case rel => exact ⟨k + 1, by omega, by go_num, Lib.hid (by rw [HNX.out]; exact HOk2.out), HYk2, HBk2⟩
      case measure => simp [intOf]; omega
    · have hke : k = 4 := by omega
      subst hke
      have hO := HOk.out
      rw [List.take_of_length_le (by rw [List.length_map]; omega), ← hXL] at hO
      have HJ := Lib.hid (join_own _ XS ⟨#[46]⟩ _ _ hO (by omega) (by rw [HXL.out, ← HTW.out, mk_list [46], HT.out]; exact HTL.out))
      rw [HXL.out, ← HTW.out, show (⟨#[46]⟩ : ByteArray).data.toList = [46] from rfl, HT.out] at HJ
      clear hO
      go_wp2_with fail
      (with_reducible refine HJ.out.mono ?_)
      rintro e w9 ⟨rfl, hb9⟩
      have HB9 := Lib.hid (HBk.out.trans (hb9.mono HBk.out.size))
      clear hb9
      go_wp2_with fail
      go_ret
      exact ⟨rfl, HB9.out⟩

/-- What Text returns. -/
def tagTextS (t : Tg) : List UInt8 := if tagOk t then tagText t else []
theorem tagText_any (t : Tg) (B : Nat) (w : World) (hp : Pow B w) (hB : B ≤ w.heap.size) : Calls Tryd.prog 41 #[tgV t] w fun e w' => e = .returned (.string ⟨(tagTextS t).toArray⟩) ∧ Below w.heap.size w w' := by
  unfold tagTextS
  by_cases h : tagOk t
  · rw [if_pos h]; exact tagText_yes t h B w hp hB
  · rw [if_neg h]; exact tagText_no t h w

theorem alive17_any (B : Nat) (w : World) (hp : Pow B w) (hB : B ≤ w.heap.size) : Calls Tryd.prog 17 #[] w fun e w' => e = .returned (.bool true) ∧ Below w.heap.size w w' := by
  have t1 : (⟨(tagText ⟨2, 0, 1, 3, 4⟩).toArray⟩ : ByteArray) = ⟨#[115, 50, 46, 98, 48, 46, 103, 97, 116, 104, 101, 114, 51, 46, 99, 52]⟩ := by decide +kernel
  have C1 : Calls Tryd.prog 41 #[.agg #[.int .i64 2, .int .i64 0, .int .i64 1, .int .i64 3, .int .i64 4]] w _ := tagText_yes ⟨2, 0, 1, 3, 4⟩ (by decide) B w hp hB
  rw [t1] at C1
  have H1 := Lib.hid C1
  clear C1 t1
  go_enter Tryd.func17, Tryd.ntmps17
  go_wp2_with fail
  (with_reducible refine H1.out.mono ?_)
  rintro e w1 ⟨rfl, hb1⟩
  go_wp2_with fail
  go_ret
  exact ⟨rfl, hb1⟩

end Go.Proofs.YtajilipbnfpemaaDoor
