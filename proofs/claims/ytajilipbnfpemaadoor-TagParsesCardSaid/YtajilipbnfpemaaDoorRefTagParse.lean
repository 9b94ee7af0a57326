/- Walks: Parse of the reference's tags. Conditions: none. -/
import Derived.Test.YtajilipbnfpemaaDoorRefTagText
import Derived.Test.YtajilipbnfpemaaDoorParse
import Derived.Deep.DeepCutAuto
namespace Go.Proofs.YtajilipbnfpemaaDoor
open Go.RowKit

theorem refTagText_any (t : Tg) (w : World) : Calls Tryd.prog 43 #[tgV t] w fun e w' => e = .returned (.string ⟨(tagTextS t).toArray⟩) ∧ Below w.heap.size w w' := by
  unfold tagTextS
  by_cases h : tagOk t
  · rw [if_pos h]; exact refTagText_yes t h w
  · rw [if_neg h]; exact refTagText_no t h w

/-- What stands behind the four numbers, and the tag. -/
def ReadAt (g : Nat) (w : World) (t : Tg) (rest : List UInt8) (v : Value) (wx : World) : Prop :=
  (∃ s : ByteArray, s.data.toList = rest ∧ v = .string s) ∧ Hid (wx.heap[w.heap.size]? = some (.cells #[.int .i64 0, .int .i64 0, .int .i64 0, .int .i64 0, .int .i64 0] 23 (0, 0))) ∧ Hid (wx.heap[g]? = some (.cells #[.int .i64 t.a, .int .i64 t.b, .int .i64 t.p, .int .i64 t.r, .int .i64 t.c] 23 (0, 0))) ∧ Hid (Below w.heap.size w wx)

theorem digF_len : ∀ (l : List UInt8) (n : Nat), (digF n l).2.length ≤ l.length
  | [], _ => Nat.le_refl _
  | c :: l, n => by
    simp only [digF, List.length_cons]
    split
    · dsimp only; omega
    · split
      · have := digF_len l (10 * n + (c.toNat - 48)); omega
      · have := digF_len l n; omega

theorem head_g (s : ByteArray) : (s.data.toList.head? = some 103 ∧ ∃ h : 0 < s.size, s[0] = 103) ∨ (s.data.toList.head? ≠ some 103 ∧ ¬ 0 < s.size) ∨ (s.data.toList.head? ≠ some 103 ∧ ∃ h : 0 < s.size, s[0] ≠ 103) := by
  by_cases h : 0 < s.size
  · have hd := drop_at s 0 h
    rw [List.drop_zero] at hd
    rw [hd]
    by_cases h1 : s[0] = 103
    · exact .inl ⟨by rw [h1]; rfl, h, h1⟩
    · exact .inr (.inr ⟨by simpa using h1, h, h1⟩)
  · have hd := drop_end s 0 h
    rw [List.drop_zero] at hd
    exact .inr (.inl ⟨by rw [hd]; simp, h⟩)

set_option maxRecDepth 100000 in
set_option maxHeartbeats 20000000 in
theorem refTagParse_any (s : ByteArray) (w : World) (hs : s.size ≤ 1048576) :
    Calls Tryd.prog 44 #[.string s] w fun e w' => e = .returned (.tuple #[tgV (tagS s.data.toList).1, .bool (tagS s.data.toList).2]) ∧ Below w.heap.size w w' := by
  have hsl : s.data.toList.length = s.size := Array.length_toList
  have HD := Lib.hid (fun (x : ByteArray) (hx : x.data.toList.length ≤ s.size) W => refDigits_any x W (by have : x.data.toList.length = x.size := Array.length_toList; omega))
  have HSP := Lib.hid (digT_spec s.data.toList)
  have hdt : digT s.data.toList = (⟨(digF 0 s.data.toList).1, (digF 0 (digF 0 s.data.toList).2).1, if (digF 0 (digF 0 s.data.toList).2).2.head? = some 103 then 1 else 0, (digF 0 (digF 0 (digF 0 s.data.toList).2).2).1, (digF 0 (digF 0 (digF 0 (digF 0 s.data.toList).2).2).2).1⟩, (digF 0 (digF 0 (digF 0 (digF 0 s.data.toList).2).2).2).2) := rfl
  have HDT := Lib.hid hdt
  have HSL := Lib.hid (Nat.le_of_eq hsl)
  clear hs hsl hdt
  generalize tagS s.data.toList = TS at HSP ⊢
  generalize digT s.data.toList = DT at HSP HDT
  have HB := Lib.hid (((Below.refl w.heap.size w).alloc (Nat.le_refl _) (.cells #[.int .i64 0, .int .i64 0, .int .i64 0, .int .i64 0, .int .i64 0] 23)).alloc (by simp) (.cells #[.int .i64 0, .int .i64 0, .int .i64 0, .int .i64 0, .int .i64 0] 23))
  have HZ := Lib.hid (blk_alloc (heap_alloc_new w (.cells #[.int .i64 0, .int .i64 0, .int .i64 0, .int .i64 0, .int .i64 0] 23)) (.cells #[.int .i64 0, .int .i64 0, .int .i64 0, .int .i64 0, .int .i64 0] 23))
  have HX := Lib.hid (blk_new (show (w.alloc (.cells #[.int .i64 0, .int .i64 0, .int .i64 0, .int .i64 0, .int .i64 0] 23)).heap.size = w.heap.size + 1 by simp) (.cells #[.int .i64 0, .int .i64 0, .int .i64 0, .int .i64 0, .int .i64 0] 23))
  go_enter Tryd.func44, Tryd.ntmps44
  go_wp2_with fail
  (with_reducible refine (HD.out s HSL.out _).mono ?_)
  rintro e w1 ⟨⟨s1, hs1, rfl⟩, hb1⟩
  have HB1 := Lib.hid (HB.out.trans (hb1.mono (by simp; omega)))
  have HZ1 := Lib.hid (blk_below HZ.out hb1 (blk_lt HZ.out))
  have HX1 := Lib.hid (blk_below HX.out hb1 (blk_lt HX.out))
  have HL1 := Lib.hid (show s1.data.toList.length ≤ s.size by rw [hs1]; exact Nat.le_trans (digF_len _ _) HSL.out)
  have HS1 := Lib.hid hs1
  clear hb1 HB HZ HX hs1
  obtain ⟨a, ha⟩ : ∃ a : Nat, (digF 0 s.data.toList).1 = a := ⟨_, rfl⟩
  rw [ha]
  have HA := Lib.hid ha
  clear ha
  have c0 := blk_cell HX1.out 0
  have c1 := blk_cell HX1.out 1
  have c2 := blk_cell HX1.out 2
  have c3 := blk_cell HX1.out 3
  have c4 := blk_cell HX1.out 4
  have y0 := blk_frozen HX1.out 0
  have y1 := blk_frozen HX1.out 1
  have y2 := blk_frozen HX1.out 2
  have y3 := blk_frozen HX1.out 3
  have y4 := blk_frozen HX1.out 4
  have ly := blk_lt HX1.out
  go_wp2_with fail
  have HX1b := Lib.hid (blk_set HX1.out 0 (.int .i64 a))
  have HZ1b := Lib.hid (blk_far HZ1.out (p := ⟨w.heap.size + 1, 0, none⟩) (by simp) (.int .i64 a))
  have HB1b := Lib.hid (HB1.out.setCell (p := ⟨w.heap.size + 1, 0, none⟩) (by simp) (.int .i64 a))
  clear HX1 HZ1 HB1
  clear c0 c1 c2 c3 c4 y0 y1 y2 y3 y4 ly
  (with_reducible refine (HD.out s1 HL1.out _).mono ?_)
  rintro e w2 ⟨⟨s2, hs2, rfl⟩, hb2⟩
  have HB2 := Lib.hid (HB1b.out.trans (hb2.mono HB1b.out.size))
  have HZ2 := Lib.hid (blk_below HZ1b.out hb2 (blk_lt HZ1b.out))
  have HX2 := Lib.hid (blk_below HX1b.out hb2 (blk_lt HX1b.out))
  have HL2 := Lib.hid (show s2.data.toList.length ≤ s.size by rw [hs2]; exact Nat.le_trans (digF_len _ _) HL1.out)
  have HS2 := Lib.hid hs2
  clear hb2 HB1b HZ1b HX1b hs2
  obtain ⟨b, hb⟩ : ∃ b : Nat, (digF 0 s1.data.toList).1 = b := ⟨_, rfl⟩
  rw [hb]
  have HBB := Lib.hid hb
  clear hb
  rcases head_g s2 with ⟨hg, h0, h1⟩ | ⟨hg, h0⟩ | ⟨hg, h0, h1⟩
  · have HHD := Lib.hid hg
    clear hg
    have hp : (0 : Int) < (s2.size : Int) := by omega
    have hg1 : ((s2[0].toNat : Int) == 103) = true := by rw [h1]; decide
    clear h1
    have c0 := blk_cell HX2.out 0
    have c1 := blk_cell HX2.out 1
    have c2 := blk_cell HX2.out 2
    have c3 := blk_cell HX2.out 3
    have c4 := blk_cell HX2.out 4
    have y0 := blk_frozen HX2.out 0
    have y1 := blk_frozen HX2.out 1
    have y2 := blk_frozen HX2.out 2
    have y3 := blk_frozen HX2.out 3
    have y4 := blk_frozen HX2.out 4
    have ly := blk_lt HX2.out
    go_wp2_with fail
    have HX2b := Lib.hid (blk_set HX2.out 1 (.int .i64 b))
    have HZ2b := Lib.hid (blk_far HZ2.out (p := ⟨w.heap.size + 1, 1, none⟩) (by simp) (.int .i64 b))
    have HB2b := Lib.hid (HB2.out.setCell (p := ⟨w.heap.size + 1, 1, none⟩) (by simp) (.int .i64 b))
    clear HX2 HZ2 HB2
    clear c0 c1 c2 c3 c4 y0 y1 y2 y3 y4 ly
    have HX2c := Lib.hid (blk_set HX2b.out 2 (.int .i64 1))
    have HZ2c := Lib.hid (blk_far HZ2b.out (p := ⟨w.heap.size + 1, 2, none⟩) (by simp) (.int .i64 1))
    have HB2c := Lib.hid (HB2b.out.setCell (p := ⟨w.heap.size + 1, 2, none⟩) (by simp) (.int .i64 1))
    clear HX2b HZ2b HB2b
    (with_reducible refine (HD.out s2 HL2.out _).mono ?_)
    rintro e w3 ⟨⟨s3, hs3, rfl⟩, hb3⟩
    have HB3 := Lib.hid (HB2c.out.trans (hb3.mono HB2c.out.size))
    have HZ3 := Lib.hid (blk_below HZ2c.out hb3 (blk_lt HZ2c.out))
    have HX3 := Lib.hid (blk_below HX2c.out hb3 (blk_lt HX2c.out))
    have HL3 := Lib.hid (show s3.data.toList.length ≤ s.size by rw [hs3]; exact Nat.le_trans (digF_len _ _) HL2.out)
    have HS3 := Lib.hid hs3
    clear hb3 HB2c HZ2c HX2c hs3
    obtain ⟨r, hr⟩ : ∃ r : Nat, (digF 0 s2.data.toList).1 = r := ⟨_, rfl⟩
    rw [hr]
    have HRR := Lib.hid hr
    clear hr
    have c0 := blk_cell HX3.out 0
    have c1 := blk_cell HX3.out 1
    have c2 := blk_cell HX3.out 2
    have c3 := blk_cell HX3.out 3
    have c4 := blk_cell HX3.out 4
    have y0 := blk_frozen HX3.out 0
    have y1 := blk_frozen HX3.out 1
    have y2 := blk_frozen HX3.out 2
    have y3 := blk_frozen HX3.out 3
    have y4 := blk_frozen HX3.out 4
    have ly := blk_lt HX3.out
    go_wp2_with fail
    have HX3b := Lib.hid (blk_set HX3.out 3 (.int .i64 r))
    have HZ3b := Lib.hid (blk_far HZ3.out (p := ⟨w.heap.size + 1, 3, none⟩) (by simp) (.int .i64 r))
    have HB3b := Lib.hid (HB3.out.setCell (p := ⟨w.heap.size + 1, 3, none⟩) (by simp) (.int .i64 r))
    clear HX3 HZ3 HB3
    clear c0 c1 c2 c3 c4 y0 y1 y2 y3 y4 ly
    (with_reducible refine (HD.out s3 HL3.out _).mono ?_)
    rintro e w4 ⟨⟨s4, hs4, rfl⟩, hb4⟩
    have HB4 := Lib.hid (HB3b.out.trans (hb4.mono HB3b.out.size))
    have HZ4 := Lib.hid (blk_below HZ3b.out hb4 (blk_lt HZ3b.out))
    have HX4 := Lib.hid (blk_below HX3b.out hb4 (blk_lt HX3b.out))
    have HS4 := Lib.hid hs4
    clear hb4 HB3b HZ3b HX3b hs4
    obtain ⟨c, hc⟩ : ∃ c : Nat, (digF 0 s3.data.toList).1 = c := ⟨_, rfl⟩
    rw [hc]
    have HCC := Lib.hid hc
    clear hc
    have HDT2 := Lib.hid (show DT = (⟨a, b, 1, r, c⟩, s4.data.toList) by
      rw [HDT.out, HS4.out, ← HCC.out, ← HRR.out, ← HBB.out, ← HA.out, HS3.out, HS2.out, HS1.out]
      rw [HS2.out, HS1.out] at HHD
      simp [HHD.out])
    rw [HDT2.out] at HSP
    dsimp only at HSP
    clear HDT HDT2 HHD HS1 HS2 HS3 HS4 HA HBB HRR HCC HL1 HL2 HL3 HD HSL
    have HR := Lib.hid (fun W => refRight_any ⟨a, b, 1, r, c⟩ W)
    have c0 := blk_cell HX4.out 0
    have c1 := blk_cell HX4.out 1
    have c2 := blk_cell HX4.out 2
    have c3 := blk_cell HX4.out 3
    have c4 := blk_cell HX4.out 4
    have y0 := blk_frozen HX4.out 0
    have y1 := blk_frozen HX4.out 1
    have y2 := blk_frozen HX4.out 2
    have y3 := blk_frozen HX4.out 3
    have y4 := blk_frozen HX4.out 4
    have ly := blk_lt HX4.out
    go_upto_region 9 with fail
    have HX4b := Lib.hid (blk_set HX4.out 4 (.int .i64 c))
    have HZ4b := Lib.hid (blk_far HZ4.out (p := ⟨w.heap.size + 1, 4, none⟩) (by simp) (.int .i64 c))
    have HB4b := Lib.hid (HB4.out.setCell (p := ⟨w.heap.size + 1, 4, none⟩) (by simp) (.int .i64 c))
    clear HX4 HZ4 HB4
    clear c0 c1 c2 c3 c4 y0 y1 y2 y3 y4 ly
    generalize (World.setCell w4 ⟨w.heap.size + 1, 4, none⟩ (.int .i64 c)) = w4b at HX4b HZ4b HB4b ⊢
    by_cases he : s4.data.toList = []
    · have hne : s4.toList.isEmpty = true := by rw [ByteArray.toList_eq, he]; rfl
      by_cases hok : tagOk ⟨a, b, 1, r, c⟩
      · by_cases ht : tagText ⟨a, b, 1, r, c⟩ = s.data.toList
        · skip
          have HTS := Lib.hid (show TS = (⟨a, b, 1, r, c⟩, true) by rw [HSP.out, if_pos ⟨he, hok, ht⟩])
          have hq := str_same ht.symm
          rw [decide_eq_true hok] at HR
          have HTX := Lib.hid (fun W => refTagText_yes ⟨a, b, 1, r, c⟩ hok W)
          unfold tgV at HTX
          dsimp only at HTX
          clear hok HSP he ht
          unfold tgV at HR
          dsimp only at HR
          have c0 := blk_cell HX4b.out 0
          have c1 := blk_cell HX4b.out 1
          have c2 := blk_cell HX4b.out 2
          have c3 := blk_cell HX4b.out 3
          have c4 := blk_cell HX4b.out 4
          go_wp2_with fail
          (with_reducible refine (HR.out _).mono ?_)
          rintro e w5 ⟨rfl, hb5⟩
          have HB5 := Lib.hid (HB4b.out.trans (hb5.mono HB4b.out.size))
          have HZ5 := Lib.hid (blk_below HZ4b.out hb5 (blk_lt HZ4b.out))
          have HX5 := Lib.hid (blk_below HX4b.out hb5 (blk_lt HX4b.out))
          clear hb5 HB4b HZ4b HX4b c0 c1 c2 c3 c4
          have c0 := blk_cell HX5.out 0
          have c1 := blk_cell HX5.out 1
          have c2 := blk_cell HX5.out 2
          have c3 := blk_cell HX5.out 3
          have c4 := blk_cell HX5.out 4
          go_wp2_with fail
          (with_reducible refine (HTX.out _).mono ?_)
          rintro e w6 ⟨rfl, hb6⟩
          have HB6 := Lib.hid (HB5.out.trans (hb6.mono HB5.out.size))
          have HZ6 := Lib.hid (blk_below HZ5.out hb6 (blk_lt HZ5.out))
          have HX6 := Lib.hid (blk_below HX5.out hb6 (blk_lt HX5.out))
          clear hb6 HB5 HZ5 HX5 c0 c1 c2 c3 c4
          have x0 := blk_cell HX6.out 0
          have x1 := blk_cell HX6.out 1
          have x2 := blk_cell HX6.out 2
          have x3 := blk_cell HX6.out 3
          have x4 := blk_cell HX6.out 4
          have d0 := blk_cell HZ6.out 0
          have d1 := blk_cell HZ6.out 1
          have d2 := blk_cell HZ6.out 2
          have d3 := blk_cell HZ6.out 3
          have d4 := blk_cell HZ6.out 4
          have z0 := blk_frozen HZ6.out 0
          have z1 := blk_frozen HZ6.out 1
          have z2 := blk_frozen HZ6.out 2
          have z3 := blk_frozen HZ6.out 3
          have z4 := blk_frozen HZ6.out 4
          have lz := blk_lt HZ6.out
          go_wp2_with fail
          have s5 := blk_set HZ6.out 0 (.int .i64 a)
          have s6 := blk_set s5 1 (.int .i64 b)
          have s7 := blk_set s6 2 (.int .i64 1)
          have s8 := blk_set s7 3 (.int .i64 r)
          have s9 := blk_set s8 4 (.int .i64 c)
          have hbW := (((((HB6.out.setCell (p := ⟨w.heap.size, 0, none⟩) (by simp) (.int .i64 a)).setCell (p := ⟨w.heap.size, 1, none⟩) (by simp) (.int .i64 b)).setCell (p := ⟨w.heap.size, 2, none⟩) (by simp) (.int .i64 1)).setCell (p := ⟨w.heap.size, 3, none⟩) (by simp) (.int .i64 r)).setCell (p := ⟨w.heap.size, 4, none⟩) (by simp) (.int .i64 c))
          generalize (World.setCell (World.setCell (World.setCell (World.setCell (World.setCell w6 ⟨w.heap.size, 0, none⟩ (.int .i64 a)) ⟨w.heap.size, 1, none⟩ (.int .i64 b)) ⟨w.heap.size, 2, none⟩ (.int .i64 1)) ⟨w.heap.size, 3, none⟩ (.int .i64 r)) ⟨w.heap.size, 4, none⟩ (.int .i64 c)) = W at s9 hbW ⊢
          clear s5 s6 s7 s8
          have k0 := blk_cell s9 0
          have k1 := blk_cell s9 1
          have k2 := blk_cell s9 2
          have k3 := blk_cell s9 3
          have k4 := blk_cell s9 4
          refine bodyPost_ret (v := .tuple #[.agg #[.int .i64 a, .int .i64 b, .int .i64 1, .int .i64 r, .int .i64 c], .bool true]) ?_ rfl ⟨by rw [HTS.out]; rfl, hbW⟩
          simp [results, Tryd.results44, go_sem, k0, k1, k2, k3, k4]
        · skip
          have HTS := Lib.hid (show TS = (tg0, false) by rw [HSP.out, if_neg (fun h => ht h.2.2)])
          have hq := str_other (Ne.symm ht)
          rw [decide_eq_true hok] at HR
          have HTX := Lib.hid (fun W => refTagText_yes ⟨a, b, 1, r, c⟩ hok W)
          unfold tgV at HTX
          dsimp only at HTX
          clear hok HSP he ht
          unfold tgV at HR
          dsimp only at HR
          have c0 := blk_cell HX4b.out 0
          have c1 := blk_cell HX4b.out 1
          have c2 := blk_cell HX4b.out 2
          have c3 := blk_cell HX4b.out 3
          have c4 := blk_cell HX4b.out 4
          go_wp2_with fail
          (with_reducible refine (HR.out _).mono ?_)
          rintro e w5 ⟨rfl, hb5⟩
          have HB5 := Lib.hid (HB4b.out.trans (hb5.mono HB4b.out.size))
          have HZ5 := Lib.hid (blk_below HZ4b.out hb5 (blk_lt HZ4b.out))
          have HX5 := Lib.hid (blk_below HX4b.out hb5 (blk_lt HX4b.out))
          clear hb5 HB4b HZ4b HX4b c0 c1 c2 c3 c4
          have c0 := blk_cell HX5.out 0
          have c1 := blk_cell HX5.out 1
          have c2 := blk_cell HX5.out 2
          have c3 := blk_cell HX5.out 3
          have c4 := blk_cell HX5.out 4
          go_wp2_with fail
          (with_reducible refine (HTX.out _).mono ?_)
          rintro e w6 ⟨rfl, hb6⟩
          have HB6 := Lib.hid (HB5.out.trans (hb6.mono HB5.out.size))
          have HZ6 := Lib.hid (blk_below HZ5.out hb6 (blk_lt HZ5.out))
          have HX6 := Lib.hid (blk_below HX5.out hb6 (blk_lt HX5.out))
          clear hb6 HB5 HZ5 HX5 c0 c1 c2 c3 c4
          have d0 := blk_cell HZ6.out 0
          have d1 := blk_cell HZ6.out 1
          have d2 := blk_cell HZ6.out 2
          have d3 := blk_cell HZ6.out 3
          have d4 := blk_cell HZ6.out 4
          have z0 := blk_frozen HZ6.out 0
          have z1 := blk_frozen HZ6.out 1
          have z2 := blk_frozen HZ6.out 2
          have z3 := blk_frozen HZ6.out 3
          have z4 := blk_frozen HZ6.out 4
          have lz := blk_lt HZ6.out
          go_wp2_with fail
          have s5 := blk_set HZ6.out 0 (.int .i64 0)
          have s6 := blk_set s5 1 (.int .i64 0)
          have s7 := blk_set s6 2 (.int .i64 0)
          have s8 := blk_set s7 3 (.int .i64 0)
          have s9 := blk_set s8 4 (.int .i64 0)
          have hbW := (((((HB6.out.setCell (p := ⟨w.heap.size, 0, none⟩) (by simp) (.int .i64 0)).setCell (p := ⟨w.heap.size, 1, none⟩) (by simp) (.int .i64 0)).setCell (p := ⟨w.heap.size, 2, none⟩) (by simp) (.int .i64 0)).setCell (p := ⟨w.heap.size, 3, none⟩) (by simp) (.int .i64 0)).setCell (p := ⟨w.heap.size, 4, none⟩) (by simp) (.int .i64 0))
          generalize (World.setCell (World.setCell (World.setCell (World.setCell (World.setCell w6 ⟨w.heap.size, 0, none⟩ (.int .i64 0)) ⟨w.heap.size, 1, none⟩ (.int .i64 0)) ⟨w.heap.size, 2, none⟩ (.int .i64 0)) ⟨w.heap.size, 3, none⟩ (.int .i64 0)) ⟨w.heap.size, 4, none⟩ (.int .i64 0)) = W at s9 hbW ⊢
          clear s5 s6 s7 s8
          have k0 := blk_cell s9 0
          have k1 := blk_cell s9 1
          have k2 := blk_cell s9 2
          have k3 := blk_cell s9 3
          have k4 := blk_cell s9 4
          refine bodyPost_ret (v := .tuple #[.agg #[.int .i64 0, .int .i64 0, .int .i64 0, .int .i64 0, .int .i64 0], .bool false]) ?_ rfl ⟨by rw [HTS.out]; rfl, hbW⟩
          simp [results, Tryd.results44, go_sem, k0, k1, k2, k3, k4]
      · skip
        have HTS := Lib.hid (show TS = (tg0, false) by rw [HSP.out, if_neg (fun h => hok h.2.1)])
        rw [decide_eq_false hok] at HR
        clear hok HSP he
        unfold tgV at HR
        dsimp only at HR
        have c0 := blk_cell HX4b.out 0
        have c1 := blk_cell HX4b.out 1
        have c2 := blk_cell HX4b.out 2
        have c3 := blk_cell HX4b.out 3
        have c4 := blk_cell HX4b.out 4
        go_wp2_with fail
        (with_reducible refine (HR.out _).mono ?_)
        rintro e w5 ⟨rfl, hb5⟩
        have HB5 := Lib.hid (HB4b.out.trans (hb5.mono HB4b.out.size))
        have HZ5 := Lib.hid (blk_below HZ4b.out hb5 (blk_lt HZ4b.out))
        have HX5 := Lib.hid (blk_below HX4b.out hb5 (blk_lt HX4b.out))
        clear hb5 HB4b HZ4b HX4b c0 c1 c2 c3 c4
        have d0 := blk_cell HZ5.out 0
        have d1 := blk_cell HZ5.out 1
        have d2 := blk_cell HZ5.out 2
        have d3 := blk_cell HZ5.out 3
        have d4 := blk_cell HZ5.out 4
        have z0 := blk_frozen HZ5.out 0
        have z1 := blk_frozen HZ5.out 1
        have z2 := blk_frozen HZ5.out 2
        have z3 := blk_frozen HZ5.out 3
        have z4 := blk_frozen HZ5.out 4
        have lz := blk_lt HZ5.out
        go_wp2_with fail
        have s5 := blk_set HZ5.out 0 (.int .i64 0)
        have s6 := blk_set s5 1 (.int .i64 0)
        have s7 := blk_set s6 2 (.int .i64 0)
        have s8 := blk_set s7 3 (.int .i64 0)
        have s9 := blk_set s8 4 (.int .i64 0)
        have hbW := (((((HB5.out.setCell (p := ⟨w.heap.size, 0, none⟩) (by simp) (.int .i64 0)).setCell (p := ⟨w.heap.size, 1, none⟩) (by simp) (.int .i64 0)).setCell (p := ⟨w.heap.size, 2, none⟩) (by simp) (.int .i64 0)).setCell (p := ⟨w.heap.size, 3, none⟩) (by simp) (.int .i64 0)).setCell (p := ⟨w.heap.size, 4, none⟩) (by simp) (.int .i64 0))
        generalize (World.setCell (World.setCell (World.setCell (World.setCell (World.setCell w5 ⟨w.heap.size, 0, none⟩ (.int .i64 0)) ⟨w.heap.size, 1, none⟩ (.int .i64 0)) ⟨w.heap.size, 2, none⟩ (.int .i64 0)) ⟨w.heap.size, 3, none⟩ (.int .i64 0)) ⟨w.heap.size, 4, none⟩ (.int .i64 0)) = W at s9 hbW ⊢
        clear s5 s6 s7 s8
        have k0 := blk_cell s9 0
        have k1 := blk_cell s9 1
        have k2 := blk_cell s9 2
        have k3 := blk_cell s9 3
        have k4 := blk_cell s9 4
        refine bodyPost_ret (v := .tuple #[.agg #[.int .i64 0, .int .i64 0, .int .i64 0, .int .i64 0, .int .i64 0], .bool false]) ?_ rfl ⟨by rw [HTS.out]; rfl, hbW⟩
        simp [results, Tryd.results44, go_sem, k0, k1, k2, k3, k4]
    · skip
      have HTS := Lib.hid (show TS = (tg0, false) by rw [HSP.out, if_neg (fun h => he h.1)])
      have hne : s4.toList.isEmpty = false := by rw [ByteArray.toList_eq]; simpa using he
      clear he HR HSP
      have d0 := blk_cell HZ4b.out 0
      have d1 := blk_cell HZ4b.out 1
      have d2 := blk_cell HZ4b.out 2
      have d3 := blk_cell HZ4b.out 3
      have d4 := blk_cell HZ4b.out 4
      have z0 := blk_frozen HZ4b.out 0
      have z1 := blk_frozen HZ4b.out 1
      have z2 := blk_frozen HZ4b.out 2
      have z3 := blk_frozen HZ4b.out 3
      have z4 := blk_frozen HZ4b.out 4
      have lz := blk_lt HZ4b.out
      go_wp2_with fail
      have s5 := blk_set HZ4b.out 0 (.int .i64 0)
      have s6 := blk_set s5 1 (.int .i64 0)
      have s7 := blk_set s6 2 (.int .i64 0)
      have s8 := blk_set s7 3 (.int .i64 0)
      have s9 := blk_set s8 4 (.int .i64 0)
      have hbW := (((((HB4b.out.setCell (p := ⟨w.heap.size, 0, none⟩) (by simp) (.int .i64 0)).setCell (p := ⟨w.heap.size, 1, none⟩) (by simp) (.int .i64 0)).setCell (p := ⟨w.heap.size, 2, none⟩) (by simp) (.int .i64 0)).setCell (p := ⟨w.heap.size, 3, none⟩) (by simp) (.int .i64 0)).setCell (p := ⟨w.heap.size, 4, none⟩) (by simp) (.int .i64 0))
      generalize (World.setCell (World.setCell (World.setCell (World.setCell (World.setCell w4b ⟨w.heap.size, 0, none⟩ (.int .i64 0)) ⟨w.heap.size, 1, none⟩ (.int .i64 0)) ⟨w.heap.size, 2, none⟩ (.int .i64 0)) ⟨w.heap.size, 3, none⟩ (.int .i64 0)) ⟨w.heap.size, 4, none⟩ (.int .i64 0)) = W at s9 hbW ⊢
      clear s5 s6 s7 s8
      have k0 := blk_cell s9 0
      have k1 := blk_cell s9 1
      have k2 := blk_cell s9 2
      have k3 := blk_cell s9 3
      have k4 := blk_cell s9 4
      refine bodyPost_ret (v := .tuple #[.agg #[.int .i64 0, .int .i64 0, .int .i64 0, .int .i64 0, .int .i64 0], .bool false]) ?_ rfl ⟨by rw [HTS.out]; rfl, hbW⟩
      simp [results, Tryd.results44, go_sem, k0, k1, k2, k3, k4]
  · have HHD := Lib.hid hg
    clear hg
    have hp : ¬ (0 : Int) < (s2.size : Int) := by omega
    clear h0
    have c0 := blk_cell HX2.out 0
    have c1 := blk_cell HX2.out 1
    have c2 := blk_cell HX2.out 2
    have c3 := blk_cell HX2.out 3
    have c4 := blk_cell HX2.out 4
    have y0 := blk_frozen HX2.out 0
    have y1 := blk_frozen HX2.out 1
    have y2 := blk_frozen HX2.out 2
    have y3 := blk_frozen HX2.out 3
    have y4 := blk_frozen HX2.out 4
    have ly := blk_lt HX2.out
    go_wp2_with fail
    have HX2b := Lib.hid (blk_set HX2.out 1 (.int .i64 b))
    have HZ2b := Lib.hid (blk_far HZ2.out (p := ⟨w.heap.size + 1, 1, none⟩) (by simp) (.int .i64 b))
    have HB2b := Lib.hid (HB2.out.setCell (p := ⟨w.heap.size + 1, 1, none⟩) (by simp) (.int .i64 b))
    clear HX2 HZ2 HB2
    clear c0 c1 c2 c3 c4 y0 y1 y2 y3 y4 ly
    (with_reducible refine (HD.out s2 HL2.out _).mono ?_)
    rintro e w3 ⟨⟨s3, hs3, rfl⟩, hb3⟩
    have HB3 := Lib.hid (HB2b.out.trans (hb3.mono HB2b.out.size))
    have HZ3 := Lib.hid (blk_below HZ2b.out hb3 (blk_lt HZ2b.out))
    have HX3 := Lib.hid (blk_below HX2b.out hb3 (blk_lt HX2b.out))
    have HL3 := Lib.hid (show s3.data.toList.length ≤ s.size by rw [hs3]; exact Nat.le_trans (digF_len _ _) HL2.out)
    have HS3 := Lib.hid hs3
    clear hb3 HB2b HZ2b HX2b hs3
    obtain ⟨r, hr⟩ : ∃ r : Nat, (digF 0 s2.data.toList).1 = r := ⟨_, rfl⟩
    rw [hr]
    have HRR := Lib.hid hr
    clear hr
    have c0 := blk_cell HX3.out 0
    have c1 := blk_cell HX3.out 1
    have c2 := blk_cell HX3.out 2
    have c3 := blk_cell HX3.out 3
    have c4 := blk_cell HX3.out 4
    have y0 := blk_frozen HX3.out 0
    have y1 := blk_frozen HX3.out 1
    have y2 := blk_frozen HX3.out 2
    have y3 := blk_frozen HX3.out 3
    have y4 := blk_frozen HX3.out 4
    have ly := blk_lt HX3.out
    go_wp2_with fail
    have HX3b := Lib.hid (blk_set HX3.out 3 (.int .i64 r))
    have HZ3b := Lib.hid (blk_far HZ3.out (p := ⟨w.heap.size + 1, 3, none⟩) (by simp) (.int .i64 r))
    have HB3b := Lib.hid (HB3.out.setCell (p := ⟨w.heap.size + 1, 3, none⟩) (by simp) (.int .i64 r))
    clear HX3 HZ3 HB3
    clear c0 c1 c2 c3 c4 y0 y1 y2 y3 y4 ly
    (with_reducible refine (HD.out s3 HL3.out _).mono ?_)
    rintro e w4 ⟨⟨s4, hs4, rfl⟩, hb4⟩
    have HB4 := Lib.hid (HB3b.out.trans (hb4.mono HB3b.out.size))
    have HZ4 := Lib.hid (blk_below HZ3b.out hb4 (blk_lt HZ3b.out))
    have HX4 := Lib.hid (blk_below HX3b.out hb4 (blk_lt HX3b.out))
    have HS4 := Lib.hid hs4
    clear hb4 HB3b HZ3b HX3b hs4
    obtain ⟨c, hc⟩ : ∃ c : Nat, (digF 0 s3.data.toList).1 = c := ⟨_, rfl⟩
    rw [hc]
    have HCC := Lib.hid hc
    clear hc
    have HDT2 := Lib.hid (show DT = (⟨a, b, 0, r, c⟩, s4.data.toList) by
      rw [HDT.out, HS4.out, ← HCC.out, ← HRR.out, ← HBB.out, ← HA.out, HS3.out, HS2.out, HS1.out]
      rw [HS2.out, HS1.out] at HHD
      simp [HHD.out])
    rw [HDT2.out] at HSP
    dsimp only at HSP
    clear HDT HDT2 HHD HS1 HS2 HS3 HS4 HA HBB HRR HCC HL1 HL2 HL3 HD HSL
    have HR := Lib.hid (fun W => refRight_any ⟨a, b, 0, r, c⟩ W)
    have c0 := blk_cell HX4.out 0
    have c1 := blk_cell HX4.out 1
    have c2 := blk_cell HX4.out 2
    have c3 := blk_cell HX4.out 3
    have c4 := blk_cell HX4.out 4
    have y0 := blk_frozen HX4.out 0
    have y1 := blk_frozen HX4.out 1
    have y2 := blk_frozen HX4.out 2
    have y3 := blk_frozen HX4.out 3
    have y4 := blk_frozen HX4.out 4
    have ly := blk_lt HX4.out
    go_upto_region 9 with fail
    have HX4b := Lib.hid (blk_set HX4.out 4 (.int .i64 c))
    have HZ4b := Lib.hid (blk_far HZ4.out (p := ⟨w.heap.size + 1, 4, none⟩) (by simp) (.int .i64 c))
    have HB4b := Lib.hid (HB4.out.setCell (p := ⟨w.heap.size + 1, 4, none⟩) (by simp) (.int .i64 c))
    clear HX4 HZ4 HB4
    clear c0 c1 c2 c3 c4 y0 y1 y2 y3 y4 ly
    generalize (World.setCell w4 ⟨w.heap.size + 1, 4, none⟩ (.int .i64 c)) = w4b at HX4b HZ4b HB4b ⊢
    by_cases he : s4.data.toList = []
    · have hne : s4.toList.isEmpty = true := by rw [ByteArray.toList_eq, he]; rfl
      by_cases hok : tagOk ⟨a, b, 0, r, c⟩
      · by_cases ht : tagText ⟨a, b, 0, r, c⟩ = s.data.toList
        · skip
          have HTS := Lib.hid (show TS = (⟨a, b, 0, r, c⟩, true) by rw [HSP.out, if_pos ⟨he, hok, ht⟩])
          have hq := str_same ht.symm
          rw [decide_eq_true hok] at HR
          have HTX := Lib.hid (fun W => refTagText_yes ⟨a, b, 0, r, c⟩ hok W)
          unfold tgV at HTX
          dsimp only at HTX
          clear hok HSP he ht
          unfold tgV at HR
          dsimp only at HR
          have c0 := blk_cell HX4b.out 0
          have c1 := blk_cell HX4b.out 1
          have c2 := blk_cell HX4b.out 2
          have c3 := blk_cell HX4b.out 3
          have c4 := blk_cell HX4b.out 4
          go_wp2_with fail
          (with_reducible refine (HR.out _).mono ?_)
          rintro e w5 ⟨rfl, hb5⟩
          have HB5 := Lib.hid (HB4b.out.trans (hb5.mono HB4b.out.size))
          have HZ5 := Lib.hid (blk_below HZ4b.out hb5 (blk_lt HZ4b.out))
          have HX5 := Lib.hid (blk_below HX4b.out hb5 (blk_lt HX4b.out))
          clear hb5 HB4b HZ4b HX4b c0 c1 c2 c3 c4
          have c0 := blk_cell HX5.out 0
          have c1 := blk_cell HX5.out 1
          have c2 := blk_cell HX5.out 2
          have c3 := blk_cell HX5.out 3
          have c4 := blk_cell HX5.out 4
          go_wp2_with fail
          (with_reducible refine (HTX.out _).mono ?_)
          rintro e w6 ⟨rfl, hb6⟩
          have HB6 := Lib.hid (HB5.out.trans (hb6.mono HB5.out.size))
          have HZ6 := Lib.hid (blk_below HZ5.out hb6 (blk_lt HZ5.out))
          have HX6 := Lib.hid (blk_below HX5.out hb6 (blk_lt HX5.out))
          clear hb6 HB5 HZ5 HX5 c0 c1 c2 c3 c4
          have x0 := blk_cell HX6.out 0
          have x1 := blk_cell HX6.out 1
          have x2 := blk_cell HX6.out 2
          have x3 := blk_cell HX6.out 3
          have x4 := blk_cell HX6.out 4
          have d0 := blk_cell HZ6.out 0
          have d1 := blk_cell HZ6.out 1
          have d2 := blk_cell HZ6.out 2
          have d3 := blk_cell HZ6.out 3
          have d4 := blk_cell HZ6.out 4
          have z0 := blk_frozen HZ6.out 0
          have z1 := blk_frozen HZ6.out 1
          have z2 := blk_frozen HZ6.out 2
          have z3 := blk_frozen HZ6.out 3
          have z4 := blk_frozen HZ6.out 4
          have lz := blk_lt HZ6.out
          go_wp2_with fail
          have s5 := blk_set HZ6.out 0 (.int .i64 a)
          have s6 := blk_set s5 1 (.int .i64 b)
          have s7 := blk_set s6 2 (.int .i64 0)
          have s8 := blk_set s7 3 (.int .i64 r)
          have s9 := blk_set s8 4 (.int .i64 c)
          have hbW := (((((HB6.out.setCell (p := ⟨w.heap.size, 0, none⟩) (by simp) (.int .i64 a)).setCell (p := ⟨w.heap.size, 1, none⟩) (by simp) (.int .i64 b)).setCell (p := ⟨w.heap.size, 2, none⟩) (by simp) (.int .i64 0)).setCell (p := ⟨w.heap.size, 3, none⟩) (by simp) (.int .i64 r)).setCell (p := ⟨w.heap.size, 4, none⟩) (by simp) (.int .i64 c))
          generalize (World.setCell (World.setCell (World.setCell (World.setCell (World.setCell w6 ⟨w.heap.size, 0, none⟩ (.int .i64 a)) ⟨w.heap.size, 1, none⟩ (.int .i64 b)) ⟨w.heap.size, 2, none⟩ (.int .i64 0)) ⟨w.heap.size, 3, none⟩ (.int .i64 r)) ⟨w.heap.size, 4, none⟩ (.int .i64 c)) = W at s9 hbW ⊢
          clear s5 s6 s7 s8
          have k0 := blk_cell s9 0
          have k1 := blk_cell s9 1
          have k2 := blk_cell s9 2
          have k3 := blk_cell s9 3
          have k4 := blk_cell s9 4
          refine bodyPost_ret (v := .tuple #[.agg #[.int .i64 a, .int .i64 b, .int .i64 0, .int .i64 r, .int .i64 c], .bool true]) ?_ rfl ⟨by rw [HTS.out]; rfl, hbW⟩
          simp [results, Tryd.results44, go_sem, k0, k1, k2, k3, k4]
        · skip
          have HTS := Lib.hid (show TS = (tg0, false) by rw [HSP.out, if_neg (fun h => ht h.2.2)])
          have hq := str_other (Ne.symm ht)
          rw [decide_eq_true hok] at HR
          have HTX := Lib.hid (fun W => refTagText_yes ⟨a, b, 0, r, c⟩ hok W)
          unfold tgV at HTX
          dsimp only at HTX
          clear hok HSP he ht
          unfold tgV at HR
          dsimp only at HR
          have c0 := blk_cell HX4b.out 0
          have c1 := blk_cell HX4b.out 1
          have c2 := blk_cell HX4b.out 2
          have c3 := blk_cell HX4b.out 3
          have c4 := blk_cell HX4b.out 4
          go_wp2_with fail
          (with_reducible refine (HR.out _).mono ?_)
          rintro e w5 ⟨rfl, hb5⟩
          have HB5 := Lib.hid (HB4b.out.trans (hb5.mono HB4b.out.size))
          have HZ5 := Lib.hid (blk_below HZ4b.out hb5 (blk_lt HZ4b.out))
          have HX5 := Lib.hid (blk_below HX4b.out hb5 (blk_lt HX4b.out))
          clear hb5 HB4b HZ4b HX4b c0 c1 c2 c3 c4
          have c0 := blk_cell HX5.out 0
          have c1 := blk_cell HX5.out 1
          have c2 := blk_cell HX5.out 2
          have c3 := blk_cell HX5.out 3
          have c4 := blk_cell HX5.out 4
          go_wp2_with fail
          (with_reducible refine (HTX.out _).mono ?_)
          rintro e w6 ⟨rfl, hb6⟩
          have HB6 := Lib.hid (HB5.out.trans (hb6.mono HB5.out.size))
          have HZ6 := Lib.hid (blk_below HZ5.out hb6 (blk_lt HZ5.out))
          have HX6 := Lib.hid (blk_below HX5.out hb6 (blk_lt HX5.out))
          clear hb6 HB5 HZ5 HX5 c0 c1 c2 c3 c4
          have d0 := blk_cell HZ6.out 0
          have d1 := blk_cell HZ6.out 1
          have d2 := blk_cell HZ6.out 2
          have d3 := blk_cell HZ6.out 3
          have d4 := blk_cell HZ6.out 4
          have z0 := blk_frozen HZ6.out 0
          have z1 := blk_frozen HZ6.out 1
          have z2 := blk_frozen HZ6.out 2
          have z3 := blk_frozen HZ6.out 3
          have z4 := blk_frozen HZ6.out 4
          have lz := blk_lt HZ6.out
          go_wp2_with fail
          have s5 := blk_set HZ6.out 0 (.int .i64 0)
          have s6 := blk_set s5 1 (.int .i64 0)
          have s7 := blk_set s6 2 (.int .i64 0)
          have s8 := blk_set s7 3 (.int .i64 0)
          have s9 := blk_set s8 4 (.int .i64 0)
          have hbW := (((((HB6.out.setCell (p := ⟨w.heap.size, 0, none⟩) (by simp) (.int .i64 0)).setCell (p := ⟨w.heap.size, 1, none⟩) (by simp) (.int .i64 0)).setCell (p := ⟨w.heap.size, 2, none⟩) (by simp) (.int .i64 0)).setCell (p := ⟨w.heap.size, 3, none⟩) (by simp) (.int .i64 0)).setCell (p := ⟨w.heap.size, 4, none⟩) (by simp) (.int .i64 0))
          generalize (World.setCell (World.setCell (World.setCell (World.setCell (World.setCell w6 ⟨w.heap.size, 0, none⟩ (.int .i64 0)) ⟨w.heap.size, 1, none⟩ (.int .i64 0)) ⟨w.heap.size, 2, none⟩ (.int .i64 0)) ⟨w.heap.size, 3, none⟩ (.int .i64 0)) ⟨w.heap.size, 4, none⟩ (.int .i64 0)) = W at s9 hbW ⊢
          clear s5 s6 s7 s8
          have k0 := blk_cell s9 0
          have k1 := blk_cell s9 1
          have k2 := blk_cell s9 2
          have k3 := blk_cell s9 3
          have k4 := blk_cell s9 4
          refine bodyPost_ret (v := .tuple #[.agg #[.int .i64 0, .int .i64 0, .int .i64 0, .int .i64 0, .int .i64 0], .bool false]) ?_ rfl ⟨by rw [HTS.out]; rfl, hbW⟩
          simp [results, Tryd.results44, go_sem, k0, k1, k2, k3, k4]
      · skip
        have HTS := Lib.hid (show TS = (tg0, false) by rw [HSP.out, if_neg (fun h => hok h.2.1)])
        rw [decide_eq_false hok] at HR
        clear hok HSP he
        unfold tgV at HR
        dsimp only at HR
        have c0 := blk_cell HX4b.out 0
        have c1 := blk_cell HX4b.out 1
        have c2 := blk_cell HX4b.out 2
        have c3 := blk_cell HX4b.out 3
        have c4 := blk_cell HX4b.out 4
        go_wp2_with fail
        (with_reducible refine (HR.out _).mono ?_)
        rintro e w5 ⟨rfl, hb5⟩
        have HB5 := Lib.hid (HB4b.out.trans (hb5.mono HB4b.out.size))
        have HZ5 := Lib.hid (blk_below HZ4b.out hb5 (blk_lt HZ4b.out))
        have HX5 := Lib.hid (blk_below HX4b.out hb5 (blk_lt HX4b.out))
        clear hb5 HB4b HZ4b HX4b c0 c1 c2 c3 c4
        have d0 := blk_cell HZ5.out 0
        have d1 := blk_cell HZ5.out 1
        have d2 := blk_cell HZ5.out 2
        have d3 := blk_cell HZ5.out 3
        have d4 := blk_cell HZ5.out 4
        have z0 := blk_frozen HZ5.out 0
        have z1 := blk_frozen HZ5.out 1
        have z2 := blk_frozen HZ5.out 2
        have z3 := blk_frozen HZ5.out 3
        have z4 := blk_frozen HZ5.out 4
        have lz := blk_lt HZ5.out
        go_wp2_with fail
        have s5 := blk_set HZ5.out 0 (.int .i64 0)
        have s6 := blk_set s5 1 (.int .i64 0)
        have s7 := blk_set s6 2 (.int .i64 0)
        have s8 := blk_set s7 3 (.int .i64 0)
        have s9 := blk_set s8 4 (.int .i64 0)
        have hbW := (((((HB5.out.setCell (p := ⟨w.heap.size, 0, none⟩) (by simp) (.int .i64 0)).setCell (p := ⟨w.heap.size, 1, none⟩) (by simp) (.int .i64 0)).setCell (p := ⟨w.heap.size, 2, none⟩) (by simp) (.int .i64 0)).setCell (p := ⟨w.heap.size, 3, none⟩) (by simp) (.int .i64 0)).setCell (p := ⟨w.heap.size, 4, none⟩) (by simp) (.int .i64 0))
        generalize (World.setCell (World.setCell (World.setCell (World.setCell (World.setCell w5 ⟨w.heap.size, 0, none⟩ (.int .i64 0)) ⟨w.heap.size, 1, none⟩ (.int .i64 0)) ⟨w.heap.size, 2, none⟩ (.int .i64 0)) ⟨w.heap.size, 3, none⟩ (.int .i64 0)) ⟨w.heap.size, 4, none⟩ (.int .i64 0)) = W at s9 hbW ⊢
        clear s5 s6 s7 s8
        have k0 := blk_cell s9 0
        have k1 := blk_cell s9 1
        have k2 := blk_cell s9 2
        have k3 := blk_cell s9 3
        have k4 := blk_cell s9 4
        refine bodyPost_ret (v := .tuple #[.agg #[.int .i64 0, .int .i64 0, .int .i64 0, .int .i64 0, .int .i64 0], .bool false]) ?_ rfl ⟨by rw [HTS.out]; rfl, hbW⟩
        simp [results, Tryd.results44, go_sem, k0, k1, k2, k3, k4]
    · skip
      have HTS := Lib.hid (show TS = (tg0, false) by rw [HSP.out, if_neg (fun h => he h.1)])
      have hne : s4.toList.isEmpty = false := by rw [ByteArray.toList_eq]; simpa using he
      clear he HR HSP
      have d0 := blk_cell HZ4b.out 0
      have d1 := blk_cell HZ4b.out 1
      have d2 := blk_cell HZ4b.out 2
      have d3 := blk_cell HZ4b.out 3
      have d4 := blk_cell HZ4b.out 4
      have z0 := blk_frozen HZ4b.out 0
      have z1 := blk_frozen HZ4b.out 1
      have z2 := blk_frozen HZ4b.out 2
      have z3 := blk_frozen HZ4b.out 3
      have z4 := blk_frozen HZ4b.out 4
      have lz := blk_lt HZ4b.out
      go_wp2_with fail
      have s5 := blk_set HZ4b.out 0 (.int .i64 0)
      have s6 := blk_set s5 1 (.int .i64 0)
      have s7 := blk_set s6 2 (.int .i64 0)
      have s8 := blk_set s7 3 (.int .i64 0)
      have s9 := blk_set s8 4 (.int .i64 0)
      have hbW := (((((HB4b.out.setCell (p := ⟨w.heap.size, 0, none⟩) (by simp) (.int .i64 0)).setCell (p := ⟨w.heap.size, 1, none⟩) (by simp) (.int .i64 0)).setCell (p := ⟨w.heap.size, 2, none⟩) (by simp) (.int .i64 0)).setCell (p := ⟨w.heap.size, 3, none⟩) (by simp) (.int .i64 0)).setCell (p := ⟨w.heap.size, 4, none⟩) (by simp) (.int .i64 0))
      generalize (World.setCell (World.setCell (World.setCell (World.setCell (World.setCell w4b ⟨w.heap.size, 0, none⟩ (.int .i64 0)) ⟨w.heap.size, 1, none⟩ (.int .i64 0)) ⟨w.heap.size, 2, none⟩ (.int .i64 0)) ⟨w.heap.size, 3, none⟩ (.int .i64 0)) ⟨w.heap.size, 4, none⟩ (.int .i64 0)) = W at s9 hbW ⊢
      clear s5 s6 s7 s8
      have k0 := blk_cell s9 0
      have k1 := blk_cell s9 1
      have k2 := blk_cell s9 2
      have k3 := blk_cell s9 3
      have k4 := blk_cell s9 4
      refine bodyPost_ret (v := .tuple #[.agg #[.int .i64 0, .int .i64 0, .int .i64 0, .int .i64 0, .int .i64 0], .bool false]) ?_ rfl ⟨by rw [HTS.out]; rfl, hbW⟩
      simp [results, Tryd.results44, go_sem, k0, k1, k2, k3, k4]
  · have HHD := Lib.hid hg
    clear hg
    have hp : (0 : Int) < (s2.size : Int) := by omega
    have hn103 : s2[0].toNat ≠ 103 := fun e => h1 (UInt8.toNat_inj.1 e)
    have hg1 : ((s2[0].toNat : Int) == 103) = false := beq_eq_false_iff_ne.2 (by omega)
    clear h1 hn103
    have c0 := blk_cell HX2.out 0
    have c1 := blk_cell HX2.out 1
    have c2 := blk_cell HX2.out 2
    have c3 := blk_cell HX2.out 3
    have c4 := blk_cell HX2.out 4
    have y0 := blk_frozen HX2.out 0
    have y1 := blk_frozen HX2.out 1
    have y2 := blk_frozen HX2.out 2
    have y3 := blk_frozen HX2.out 3
    have y4 := blk_frozen HX2.out 4
    have ly := blk_lt HX2.out
    go_wp2_with fail
    have HX2b := Lib.hid (blk_set HX2.out 1 (.int .i64 b))
    have HZ2b := Lib.hid (blk_far HZ2.out (p := ⟨w.heap.size + 1, 1, none⟩) (by simp) (.int .i64 b))
    have HB2b := Lib.hid (HB2.out.setCell (p := ⟨w.heap.size + 1, 1, none⟩) (by simp) (.int .i64 b))
    clear HX2 HZ2 HB2
    clear c0 c1 c2 c3 c4 y0 y1 y2 y3 y4 ly
    (with_reducible refine (HD.out s2 HL2.out _).mono ?_)
    rintro e w3 ⟨⟨s3, hs3, rfl⟩, hb3⟩
    have HB3 := Lib.hid (HB2b.out.trans (hb3.mono HB2b.out.size))
    have HZ3 := Lib.hid (blk_below HZ2b.out hb3 (blk_lt HZ2b.out))
    have HX3 := Lib.hid (blk_below HX2b.out hb3 (blk_lt HX2b.out))
    have HL3 := Lib.hid (show s3.data.toList.length ≤ s.size by rw [hs3]; exact Nat.le_trans (digF_len _ _) HL2.out)
    have HS3 := Lib.hid hs3
    clear hb3 HB2b HZ2b HX2b hs3
    obtain ⟨r, hr⟩ : ∃ r : Nat, (digF 0 s2.data.toList).1 = r := ⟨_, rfl⟩
    rw [hr]
    have HRR := Lib.hid hr
    clear hr
    have c0 := blk_cell HX3.out 0
    have c1 := blk_cell HX3.out 1
    have c2 := blk_cell HX3.out 2
    have c3 := blk_cell HX3.out 3
    have c4 := blk_cell HX3.out 4
    have y0 := blk_frozen HX3.out 0
    have y1 := blk_frozen HX3.out 1
    have y2 := blk_frozen HX3.out 2
    have y3 := blk_frozen HX3.out 3
    have y4 := blk_frozen HX3.out 4
    have ly := blk_lt HX3.out
    go_wp2_with fail
    have HX3b := Lib.hid (blk_set HX3.out 3 (.int .i64 r))
    have HZ3b := Lib.hid (blk_far HZ3.out (p := ⟨w.heap.size + 1, 3, none⟩) (by simp) (.int .i64 r))
    have HB3b := Lib.hid (HB3.out.setCell (p := ⟨w.heap.size + 1, 3, none⟩) (by simp) (.int .i64 r))
    clear HX3 HZ3 HB3
    clear c0 c1 c2 c3 c4 y0 y1 y2 y3 y4 ly
    (with_reducible refine (HD.out s3 HL3.out _).mono ?_)
    rintro e w4 ⟨⟨s4, hs4, rfl⟩, hb4⟩
    have HB4 := Lib.hid (HB3b.out.trans (hb4.mono HB3b.out.size))
    have HZ4 := Lib.hid (blk_below HZ3b.out hb4 (blk_lt HZ3b.out))
    have HX4 := Lib.hid (blk_below HX3b.out hb4 (blk_lt HX3b.out))
    have HS4 := Lib.hid hs4
    clear hb4 HB3b HZ3b HX3b hs4
    obtain ⟨c, hc⟩ : ∃ c : Nat, (digF 0 s3.data.toList).1 = c := ⟨_, rfl⟩
    rw [hc]
    have HCC := Lib.hid hc
    clear hc
    have HDT2 := Lib.hid (show DT = (⟨a, b, 0, r, c⟩, s4.data.toList) by
      rw [HDT.out, HS4.out, ← HCC.out, ← HRR.out, ← HBB.out, ← HA.out, HS3.out, HS2.out, HS1.out]
      rw [HS2.out, HS1.out] at HHD
      simp [HHD.out])
    rw [HDT2.out] at HSP
    dsimp only at HSP
    clear HDT HDT2 HHD HS1 HS2 HS3 HS4 HA HBB HRR HCC HL1 HL2 HL3 HD HSL
    have HR := Lib.hid (fun W => refRight_any ⟨a, b, 0, r, c⟩ W)
    have c0 := blk_cell HX4.out 0
    have c1 := blk_cell HX4.out 1
    have c2 := blk_cell HX4.out 2
    have c3 := blk_cell HX4.out 3
    have c4 := blk_cell HX4.out 4
    have y0 := blk_frozen HX4.out 0
    have y1 := blk_frozen HX4.out 1
    have y2 := blk_frozen HX4.out 2
    have y3 := blk_frozen HX4.out 3
    have y4 := blk_frozen HX4.out 4
    have ly := blk_lt HX4.out
    go_upto_region 9 with fail
    have HX4b := Lib.hid (blk_set HX4.out 4 (.int .i64 c))
    have HZ4b := Lib.hid (blk_far HZ4.out (p := ⟨w.heap.size + 1, 4, none⟩) (by simp) (.int .i64 c))
    have HB4b := Lib.hid (HB4.out.setCell (p := ⟨w.heap.size + 1, 4, none⟩) (by simp) (.int .i64 c))
    clear HX4 HZ4 HB4
    clear c0 c1 c2 c3 c4 y0 y1 y2 y3 y4 ly
    generalize (World.setCell w4 ⟨w.heap.size + 1, 4, none⟩ (.int .i64 c)) = w4b at HX4b HZ4b HB4b ⊢
    by_cases he : s4.data.toList = []
    · have hne : s4.toList.isEmpty = true := by rw [ByteArray.toList_eq, he]; rfl
      by_cases hok : tagOk ⟨a, b, 0, r, c⟩
      · by_cases ht : tagText ⟨a, b, 0, r, c⟩ = s.data.toList
        · skip
          have HTS := Lib.hid (show TS = (⟨a, b, 0, r, c⟩, true) by rw [HSP.out, if_pos ⟨he, hok, ht⟩])
          have hq := str_same ht.symm
          rw [decide_eq_true hok] at HR
          have HTX := Lib.hid (fun W => refTagText_yes ⟨a, b, 0, r, c⟩ hok W)
          unfold tgV at HTX
          dsimp only at HTX
          clear hok HSP he ht
          unfold tgV at HR
          dsimp only at HR
          have c0 := blk_cell HX4b.out 0
          have c1 := blk_cell HX4b.out 1
          have c2 := blk_cell HX4b.out 2
          have c3 := blk_cell HX4b.out 3
          have c4 := blk_cell HX4b.out 4
          go_wp2_with fail
          (with_reducible refine (HR.out _).mono ?_)
          rintro e w5 ⟨rfl, hb5⟩
          have HB5 := Lib.hid (HB4b.out.trans (hb5.mono HB4b.out.size))
          have HZ5 := Lib.hid (blk_below HZ4b.out hb5 (blk_lt HZ4b.out))
          have HX5 := Lib.hid (blk_below HX4b.out hb5 (blk_lt HX4b.out))
          clear hb5 HB4b HZ4b HX4b c0 c1 c2 c3 c4
          have c0 := blk_cell HX5.out 0
          have c1 := blk_cell HX5.out 1
          have c2 := blk_cell HX5.out 2
          have c3 := blk_cell HX5.out 3
          have c4 := blk_cell HX5.out 4
          go_wp2_with fail
          (with_reducible refine (HTX.out _).mono ?_)
          rintro e w6 ⟨rfl, hb6⟩
          have HB6 := Lib.hid (HB5.out.trans (hb6.mono HB5.out.size))
          have HZ6 := Lib.hid (blk_below HZ5.out hb6 (blk_lt HZ5.out))
          have HX6 := Lib.hid (blk_below HX5.out hb6 (blk_lt HX5.out))
          clear hb6 HB5 HZ5 HX5 c0 c1 c2 c3 c4
          have x0 := blk_cell HX6.out 0
          have x1 := blk_cell HX6.out 1
          have x2 := blk_cell HX6.out 2
          have x3 := blk_cell HX6.out 3
          have x4 := blk_cell HX6.out 4
          have d0 := blk_cell HZ6.out 0
          have d1 := blk_cell HZ6.out 1
          have d2 := blk_cell HZ6.out 2
          have d3 := blk_cell HZ6.out 3
          have d4 := blk_cell HZ6.out 4
          have z0 := blk_frozen HZ6.out 0
          have z1 := blk_frozen HZ6.out 1
          have z2 := blk_frozen HZ6.out 2
          have z3 := blk_frozen HZ6.out 3
          have z4 := blk_frozen HZ6.out 4
          have lz := blk_lt HZ6.out
          go_wp2_with fail
          have s5 := blk_set HZ6.out 0 (.int .i64 a)
          have s6 := blk_set s5 1 (.int .i64 b)
          have s7 := blk_set s6 2 (.int .i64 0)
          have s8 := blk_set s7 3 (.int .i64 r)
          have s9 := blk_set s8 4 (.int .i64 c)
          have hbW := (((((HB6.out.setCell (p := ⟨w.heap.size, 0, none⟩) (by simp) (.int .i64 a)).setCell (p := ⟨w.heap.size, 1, none⟩) (by simp) (.int .i64 b)).setCell (p := ⟨w.heap.size, 2, none⟩) (by simp) (.int .i64 0)).setCell (p := ⟨w.heap.size, 3, none⟩) (by simp) (.int .i64 r)).setCell (p := ⟨w.heap.size, 4, none⟩) (by simp) (.int .i64 c))
          generalize (World.setCell (World.setCell (World.setCell (World.setCell (World.setCell w6 ⟨w.heap.size, 0, none⟩ (.int .i64 a)) ⟨w.heap.size, 1, none⟩ (.int .i64 b)) ⟨w.heap.size, 2, none⟩ (.int .i64 0)) ⟨w.heap.size, 3, none⟩ (.int .i64 r)) ⟨w.heap.size, 4, none⟩ (.int .i64 c)) = W at s9 hbW ⊢
          clear s5 s6 s7 s8
          have k0 := blk_cell s9 0
          have k1 := blk_cell s9 1
          have k2 := blk_cell s9 2
          have k3 := blk_cell s9 3
          have k4 := blk_cell s9 4
          refine bodyPost_ret (v := .tuple #[.agg #[.int .i64 a, .int .i64 b, .int .i64 0, .int .i64 r, .int .i64 c], .bool true]) ?_ rfl ⟨by rw [HTS.out]; rfl, hbW⟩
          simp [results, Tryd.results44, go_sem, k0, k1, k2, k3, k4]
        · skip
          have HTS := Lib.hid (show TS = (tg0, false) by rw [HSP.out, if_neg (fun h => ht h.2.2)])
          have hq := str_other (Ne.symm ht)
          rw [decide_eq_true hok] at HR
          have HTX := Lib.hid (fun W => refTagText_yes ⟨a, b, 0, r, c⟩ hok W)
          unfold tgV at HTX
          dsimp only at HTX
          clear hok HSP he ht
          unfold tgV at HR
          dsimp only at HR
          have c0 := blk_cell HX4b.out 0
          have c1 := blk_cell HX4b.out 1
          have c2 := blk_cell HX4b.out 2
          have c3 := blk_cell HX4b.out 3
          have c4 := blk_cell HX4b.out 4
          go_wp2_with fail
          (with_reducible refine (HR.out _).mono ?_)
          rintro e w5 ⟨rfl, hb5⟩
          have HB5 := Lib.hid (HB4b.out.trans (hb5.mono HB4b.out.size))
          have HZ5 := Lib.hid (blk_below HZ4b.out hb5 (blk_lt HZ4b.out))
          have HX5 := Lib.hid (blk_below HX4b.out hb5 (blk_lt HX4b.out))
          clear hb5 HB4b HZ4b HX4b c0 c1 c2 c3 c4
          have c0 := blk_cell HX5.out 0
          have c1 := blk_cell HX5.out 1
          have c2 := blk_cell HX5.out 2
          have c3 := blk_cell HX5.out 3
          have c4 := blk_cell HX5.out 4
          go_wp2_with fail
          (with_reducible refine (HTX.out _).mono ?_)
          rintro e w6 ⟨rfl, hb6⟩
          have HB6 := Lib.hid (HB5.out.trans (hb6.mono HB5.out.size))
          have HZ6 := Lib.hid (blk_below HZ5.out hb6 (blk_lt HZ5.out))
          have HX6 := Lib.hid (blk_below HX5.out hb6 (blk_lt HX5.out))
          clear hb6 HB5 HZ5 HX5 c0 c1 c2 c3 c4
          have d0 := blk_cell HZ6.out 0
          have d1 := blk_cell HZ6.out 1
          have d2 := blk_cell HZ6.out 2
          have d3 := blk_cell HZ6.out 3
          have d4 := blk_cell HZ6.out 4
          have z0 := blk_frozen HZ6.out 0
          have z1 := blk_frozen HZ6.out 1
          have z2 := blk_frozen HZ6.out 2
          have z3 := blk_frozen HZ6.out 3
          have z4 := blk_frozen HZ6.out 4
          have lz := blk_lt HZ6.out
          go_wp2_with fail
          have s5 := blk_set HZ6.out 0 (.int .i64 0)
          have s6 := blk_set s5 1 (.int .i64 0)
          have s7 := blk_set s6 2 (.int .i64 0)
          have s8 := blk_set s7 3 (.int .i64 0)
          have s9 := blk_set s8 4 (.int .i64 0)
          have hbW := (((((HB6.out.setCell (p := ⟨w.heap.size, 0, none⟩) (by simp) (.int .i64 0)).setCell (p := ⟨w.heap.size, 1, none⟩) (by simp) (.int .i64 0)).setCell (p := ⟨w.heap.size, 2, none⟩) (by simp) (.int .i64 0)).setCell (p := ⟨w.heap.size, 3, none⟩) (by simp) (.int .i64 0)).setCell (p := ⟨w.heap.size, 4, none⟩) (by simp) (.int .i64 0))
          generalize (World.setCell (World.setCell (World.setCell (World.setCell (World.setCell w6 ⟨w.heap.size, 0, none⟩ (.int .i64 0)) ⟨w.heap.size, 1, none⟩ (.int .i64 0)) ⟨w.heap.size, 2, none⟩ (.int .i64 0)) ⟨w.heap.size, 3, none⟩ (.int .i64 0)) ⟨w.heap.size, 4, none⟩ (.int .i64 0)) = W at s9 hbW ⊢
          clear s5 s6 s7 s8
          have k0 := blk_cell s9 0
          have k1 := blk_cell s9 1
          have k2 := blk_cell s9 2
          have k3 := blk_cell s9 3
          have k4 := blk_cell s9 4
          refine bodyPost_ret (v := .tuple #[.agg #[.int .i64 0, .int .i64 0, .int .i64 0, .int .i64 0, .int .i64 0], .bool false]) ?_ rfl ⟨by rw [HTS.out]; rfl, hbW⟩
          simp [results, Tryd.results44, go_sem, k0, k1, k2, k3, k4]
      · skip
        have HTS := Lib.hid (show TS = (tg0, false) by rw [HSP.out, if_neg (fun h => hok h.2.1)])
        rw [decide_eq_false hok] at HR
        clear hok HSP he
        unfold tgV at HR
        dsimp only at HR
        have c0 := blk_cell HX4b.out 0
        have c1 := blk_cell HX4b.out 1
        have c2 := blk_cell HX4b.out 2
        have c3 := blk_cell HX4b.out 3
        have c4 := blk_cell HX4b.out 4
        go_wp2_with fail
        (with_reducible refine (HR.out _).mono ?_)
        rintro e w5 ⟨rfl, hb5⟩
        have HB5 := Lib.hid (HB4b.out.trans (hb5.mono HB4b.out.size))
        have HZ5 := Lib.hid (blk_below HZ4b.out hb5 (blk_lt HZ4b.out))
        have HX5 := Lib.hid (blk_below HX4b.out hb5 (blk_lt HX4b.out))
        clear hb5 HB4b HZ4b HX4b c0 c1 c2 c3 c4
        have d0 := blk_cell HZ5.out 0
        have d1 := blk_cell HZ5.out 1
        have d2 := blk_cell HZ5.out 2
        have d3 := blk_cell HZ5.out 3
        have d4 := blk_cell HZ5.out 4
        have z0 := blk_frozen HZ5.out 0
        have z1 := blk_frozen HZ5.out 1
        have z2 := blk_frozen HZ5.out 2
        have z3 := blk_frozen HZ5.out 3
        have z4 := blk_frozen HZ5.out 4
        have lz := blk_lt HZ5.out
        go_wp2_with fail
        have s5 := blk_set HZ5.out 0 (.int .i64 0)
        have s6 := blk_set s5 1 (.int .i64 0)
        have s7 := blk_set s6 2 (.int .i64 0)
        have s8 := blk_set s7 3 (.int .i64 0)
        have s9 := blk_set s8 4 (.int .i64 0)
        have hbW := (((((HB5.out.setCell (p := ⟨w.heap.size, 0, none⟩) (by simp) (.int .i64 0)).setCell (p := ⟨w.heap.size, 1, none⟩) (by simp) (.int .i64 0)).setCell (p := ⟨w.heap.size, 2, none⟩) (by simp) (.int .i64 0)).setCell (p := ⟨w.heap.size, 3, none⟩) (by simp) (.int .i64 0)).setCell (p := ⟨w.heap.size, 4, none⟩) (by simp) (.int .i64 0))
        generalize (World.setCell (World.setCell (World.setCell (World.setCell (World.setCell w5 ⟨w.heap.size, 0, none⟩ (.int .i64 0)) ⟨w.heap.size, 1, none⟩ (.int .i64 0)) ⟨w.heap.size, 2, none⟩ (.int .i64 0)) ⟨w.heap.size, 3, none⟩ (.int .i64 0)) ⟨w.heap.size, 4, none⟩ (.int .i64 0)) = W at s9 hbW ⊢
        clear s5 s6 s7 s8
        have k0 := blk_cell s9 0
        have k1 := blk_cell s9 1
        have k2 := blk_cell s9 2
        have k3 := blk_cell s9 3
        have k4 := blk_cell s9 4
        refine bodyPost_ret (v := .tuple #[.agg #[.int .i64 0, .int .i64 0, .int .i64 0, .int .i64 0, .int .i64 0], .bool false]) ?_ rfl ⟨by rw [HTS.out]; rfl, hbW⟩
        simp [results, Tryd.results44, go_sem, k0, k1, k2, k3, k4]
    · skip
      have HTS := Lib.hid (show TS = (tg0, false) by rw [HSP.out, if_neg (fun h => he h.1)])
      have hne : s4.toList.isEmpty = false := by rw [ByteArray.toList_eq]; simpa using he
      clear he HR HSP
      have d0 := blk_cell HZ4b.out 0
      have d1 := blk_cell HZ4b.out 1
      have d2 := blk_cell HZ4b.out 2
      have d3 := blk_cell HZ4b.out 3
      have d4 := blk_cell HZ4b.out 4
      have z0 := blk_frozen HZ4b.out 0
      have z1 := blk_frozen HZ4b.out 1
      have z2 := blk_frozen HZ4b.out 2
      have z3 := blk_frozen HZ4b.out 3
      have z4 := blk_frozen HZ4b.out 4
      have lz := blk_lt HZ4b.out
      go_wp2_with fail
      have s5 := blk_set HZ4b.out 0 (.int .i64 0)
      have s6 := blk_set s5 1 (.int .i64 0)
      have s7 := blk_set s6 2 (.int .i64 0)
      have s8 := blk_set s7 3 (.int .i64 0)
      have s9 := blk_set s8 4 (.int .i64 0)
      have hbW := (((((HB4b.out.setCell (p := ⟨w.heap.size, 0, none⟩) (by simp) (.int .i64 0)).setCell (p := ⟨w.heap.size, 1, none⟩) (by simp) (.int .i64 0)).setCell (p := ⟨w.heap.size, 2, none⟩) (by simp) (.int .i64 0)).setCell (p := ⟨w.heap.size, 3, none⟩) (by simp) (.int .i64 0)).setCell (p := ⟨w.heap.size, 4, none⟩) (by simp) (.int .i64 0))
      generalize (World.setCell (World.setCell (World.setCell (World.setCell (World.setCell w4b ⟨w.heap.size, 0, none⟩ (.int .i64 0)) ⟨w.heap.size, 1, none⟩ (.int .i64 0)) ⟨w.heap.size, 2, none⟩ (.int .i64 0)) ⟨w.heap.size, 3, none⟩ (.int .i64 0)) ⟨w.heap.size, 4, none⟩ (.int .i64 0)) = W at s9 hbW ⊢
      clear s5 s6 s7 s8
      have k0 := blk_cell s9 0
      have k1 := blk_cell s9 1
      have k2 := blk_cell s9 2
      have k3 := blk_cell s9 3
      have k4 := blk_cell s9 4
      refine bodyPost_ret (v := .tuple #[.agg #[.int .i64 0, .int .i64 0, .int .i64 0, .int .i64 0, .int .i64 0], .bool false]) ?_ rfl ⟨by rw [HTS.out]; rfl, hbW⟩
      simp [results, Tryd.results44, go_sem, k0, k1, k2, k3, k4]

end Go.Proofs.YtajilipbnfpemaaDoor
