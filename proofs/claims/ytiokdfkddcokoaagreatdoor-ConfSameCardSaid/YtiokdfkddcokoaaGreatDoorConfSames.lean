/- Walk: ConfSame. Conditions: the table of powers of ten reads as listed. -/
import Derived.Test.YtiokdfkddcokoaaGreatDoorConfSame
import Derived.Test.YtiokdfkddcokoaaGreatDoorRefSame
import Derived.Test.YtiokdfkddcokoaaGreatDoorConfAlive
namespace Go.Proofs.YtiokdfkddcokoaaGreatDoor
open Go.RowKit

set_option maxHeartbeats 1000000 in
theorem sames_far (A D : Option Addr) (cap cap' : Nat) (zs us : List Int) (c d : Cf) (w : World) (h40 : 40 < zs.length ∨ 40 < us.length) (hz : zs.length ≤ 9223372036854775807) (hu : us.length ≤ 9223372036854775807) :
    Calls Tryz.prog 5 #[.agg (cfCells A zs.length cap c), .agg (cfCells D us.length cap' d)] w fun e w' => e = .returned (.bool true) ∧ Below w.heap.size w w' := by
  have hb1 := (Below.refl w.heap.size w).alloc (Nat.le_refl _) (.cells (cfCells A zs.length cap c) 24)
  have hb2 := hb1.alloc hb1.size (.cells (cfCells D us.length cap' d) 24)
  have HB := Lib.hid hb2
  have HA := Lib.hid (fun W => alive11_any W)
  have h2 : (zs.length : Int) ≤ 9223372036854775807 := by omega
  have h3 : (us.length : Int) ≤ 9223372036854775807 := by omega
  clear hb1 hb2 hz hu
  unfold cfCells at HB ⊢
  by_cases h1 : (40 : Int) < (zs.length : Int)
  · clear h40
    go_enter Tryz.func5, Tryz.ntmps5
    go_wp2_with fail
    (with_reducible refine (HA.out _).mono ?_)
    rintro e w1 ⟨rfl, hb⟩
    have HB1 := Lib.hid (HB.out.trans (hb.mono HB.out.size))
    clear hb
    go_wp2_with fail
    go_ret
    exact ⟨rfl, HB1.out⟩
  · have h4 : (40 : Int) < (us.length : Int) := by omega
    clear h40
    go_enter Tryz.func5, Tryz.ntmps5
    go_wp2_with fail
    (with_reducible refine (HA.out _).mono ?_)
    rintro e w1 ⟨rfl, hb⟩
    have HB1 := Lib.hid (HB.out.trans (hb.mono HB.out.size))
    clear hb
    go_wp2_with fail
    go_ret
    exact ⟨rfl, HB1.out⟩

theorem same_self (zs : List Int) (c : Cf) : sameCf zs zs c c = true := same_iff.2 ⟨rfl, rfl⟩

theorem texts_same {zs us : List Int} {c d : Cf} {s t : ByteArray} (h1 : cfB zs c = true) (h2 : cfB us d = true) (hs : ⟨(cfTextS zs c).toArray⟩ = s) (ht : ⟨(cfTextS us d).toArray⟩ = t) : (s.toList == t.toList) = sameCf zs us c d := by
  have e1 : s.data.toList = cfText zs c := by rw [← hs]; unfold cfTextS; rw [if_pos h1]
  have e2 : t.data.toList = cfText us d := by rw [← ht]; unfold cfTextS; rw [if_pos h2]
  rw [Go.ByteArray.toList_eq, Go.ByteArray.toList_eq, e1, e2]
  rw [Bool.eq_iff_iff, same_iff, beq_iff_eq]
  constructor
  · intro h
    exact text_inj (cfB_iff.1 h1).ne (cfB_iff.1 h2).ne h
  · rintro ⟨rfl, rfl⟩
    rfl

set_option maxRecDepth 100000 in
set_option maxHeartbeats 16000000 in
theorem sames_near (A D : Option Addr) (cap cap' : Nat) (zs us : List Int) (c d : Cf) (w : World) (hr : RdI w w.heap.size A zs) (hs : RdI w w.heap.size D us) (hz : ¬ 40 < zs.length) (hu : ¬ 40 < us.length) (h64 : Cf64 zs c) (g64 : Cf64 us d) (hp : Pow w.heap.size w) :
    Calls Tryz.prog 5 #[.agg (cfCells A zs.length cap c), .agg (cfCells D us.length cap' d)] w fun e w' => e = .returned (.bool true) ∧ Below w.heap.size w w' := by
  have hb1 := (Below.refl w.heap.size w).alloc (Nat.le_refl _) (.cells (cfCells A zs.length cap c) 24)
  have hb2 := hb1.alloc hb1.size (.cells (cfCells D us.length cap' d) 24)
  have h1 := blk_alloc (heap_alloc_new w (.cells (cfCells A zs.length cap c) 24)) (.cells (cfCells D us.length cap' d) 24)
  have h2 := heap_alloc_new (w.alloc (.cells (cfCells A zs.length cap c) 24)) (.cells (cfCells D us.length cap' d) 24)
  rw [World.size_alloc] at h2
  have HB := Lib.hid hb2
  have H1 := Lib.hid h1
  have H2 := Lib.hid h2
  have HA := Lib.hid (fun W => alive11_any W)
  have RZ := fun W (hb : Below w.heap.size w W) => (hr.below hb).more hb.size
  have RU := fun W (hb : Below w.heap.size w W) => (hs.below hb).more hb.size
  have HTC := Lib.hid (fun W (hb : Below w.heap.size w W) => confText_any A cap zs c h64 (by omega) w.heap.size W (hp.on hb) hb.size (RZ W hb))
  have HTD := Lib.hid (fun W (hb : Below w.heap.size w W) => confText_any D cap' us d g64 (by omega) w.heap.size W (hp.on hb) hb.size (RU W hb))
  have HRS := Lib.hid (fun W (hb : Below w.heap.size w W) => refSame_any A D cap cap' zs us c d W (RZ W hb) (RU W hb) (by omega) (by omega))
  have HCS := Lib.hid (fun W (hb : Below w.heap.size w W) => confSame_any A D cap cap' zs us c d W (RZ W hb) (RU W hb) (by omega) (by omega))
  have HCC := Lib.hid (fun W (hb : Below w.heap.size w W) => confSame_any A A cap cap zs zs c c W (RZ W hb) (RZ W hb) (by omega) (by omega))
  rw [same_self] at HCC
  obtain ⟨s, hss⟩ : ∃ s : ByteArray, ⟨(cfTextS zs c).toArray⟩ = s := ⟨_, rfl⟩
  obtain ⟨t, htt⟩ : ∃ t : ByteArray, ⟨(cfTextS us d).toArray⟩ = t := ⟨_, rfl⟩
  have hq : cfB zs c = true → cfB us d = true → (s.toList == t.toList) = sameCf zs us c d := fun a b => texts_same a b hss htt
  rw [hss] at HTC
  rw [htt] at HTD
  have hl1 : ¬ (40 : Int) < (zs.length : Int) := by omega
  have hl2 : ¬ (40 : Int) < (us.length : Int) := by omega
  clear hb1 hb2 h1 h2 RZ RU hr hs hz hu h64 g64 hp hss htt
  generalize sameCf zs us c d = R at HRS HCS hq
  generalize cfB zs c = B1 at HTC hq
  generalize cfB us d = B2 at HTD hq
  obtain ⟨sh, ra, mo, wo, ba, mi, st, bu, ch, wi, ca⟩ := c
  obtain ⟨sh', ra', mo', wo', ba', mi', st', bu', ch', wi', ca'⟩ := d
  unfold cfCells at HB H1 H2 HTC HTD HRS HCS HCC ⊢
  dsimp only at HB H1 H2 HTC HTD HRS HCS HCC ⊢
  have hq3 : Hid (B1 = true → B2 = true → (s.toList == t.toList) = R) := Lib.hid hq
  clear hq
  cases B1 <;> cases B2 <;> cases R
  all_goals as_aux_lemma =>
    obtain ⟨q, hq0⟩ : ∃ q, (s.toList == t.toList) = q := ⟨_, rfl⟩
    have HQ := Lib.hid hq3.out
    first
      | (have hq1 := hq3.out rfl rfl; clear hq0 HQ)
      | (have hq1 := hq0; clear HQ)
    clear hq3
    go_enter Tryz.func5, Tryz.ntmps5
    go_wp2_with fail
    (with_reducible refine (HRS.out _ HB.out).mono ?_)
    rintro e w1 ⟨rfl, hb⟩
    have HB1 := Lib.hid (HB.out.trans (hb.mono HB.out.size))
    have H11 := Lib.hid (blk_below H1.out hb (blk_lt H1.out))
    have H21 := Lib.hid (blk_below H2.out hb (blk_lt H2.out))
    clear hb HB H1 H2 HRS
    have a0 := blk_cell H11.out 0
    have a1 := blk_cell H11.out 1
    have a2 := blk_cell H11.out 2
    have a3 := blk_cell H11.out 3
    have a4 := blk_cell H11.out 4
    have a5 := blk_cell H11.out 5
    have a6 := blk_cell H11.out 6
    have a7 := blk_cell H11.out 7
    have a8 := blk_cell H11.out 8
    have a9 := blk_cell H11.out 9
    have a10 := blk_cell H11.out 10
    have a11 := blk_cell H11.out 11
    go_wp2_with fail
    (with_reducible refine (HTC.out _ HB1.out).mono ?_)
    rintro e w2 ⟨rfl, hb⟩
    have HB2 := Lib.hid (HB1.out.trans (hb.mono HB1.out.size))
    have H12 := Lib.hid (blk_below H11.out hb (blk_lt H11.out))
    have H22 := Lib.hid (blk_below H21.out hb (blk_lt H21.out))
    clear hb HB1 H11 H21 HTC a0 a1 a2 a3 a4 a5 a6 a7 a8 a9 a10 a11
    have b0 := blk_cell H22.out 0
    have b1 := blk_cell H22.out 1
    have b2 := blk_cell H22.out 2
    have b3 := blk_cell H22.out 3
    have b4 := blk_cell H22.out 4
    have b5 := blk_cell H22.out 5
    have b6 := blk_cell H22.out 6
    have b7 := blk_cell H22.out 7
    have b8 := blk_cell H22.out 8
    have b9 := blk_cell H22.out 9
    have b10 := blk_cell H22.out 10
    have b11 := blk_cell H22.out 11
    go_wp2_with fail
    (with_reducible refine (HTD.out _ HB2.out).mono ?_)
    rintro e w3 ⟨rfl, hb⟩
    have HB3 := Lib.hid (HB2.out.trans (hb.mono HB2.out.size))
    have H13 := Lib.hid (blk_below H12.out hb (blk_lt H12.out))
    have H23 := Lib.hid (blk_below H22.out hb (blk_lt H22.out))
    clear hb HB2 H12 H22 HTD b0 b1 b2 b3 b4 b5 b6 b7 b8 b9 b10 b11
    go_wp2_with fail
    (with_reducible refine (HA.out _).mono ?_)
    rintro e w4 ⟨rfl, hb⟩
    have HB4 := Lib.hid (HB3.out.trans (hb.mono HB3.out.size))
    have H14 := Lib.hid (blk_below H13.out hb (blk_lt H13.out))
    have H24 := Lib.hid (blk_below H23.out hb (blk_lt H23.out))
    clear hb HB3 H13 H23 HA
    have a0 := blk_cell H14.out 0
    have a1 := blk_cell H14.out 1
    have a2 := blk_cell H14.out 2
    have a3 := blk_cell H14.out 3
    have a4 := blk_cell H14.out 4
    have a5 := blk_cell H14.out 5
    have a6 := blk_cell H14.out 6
    have a7 := blk_cell H14.out 7
    have a8 := blk_cell H14.out 8
    have a9 := blk_cell H14.out 9
    have a10 := blk_cell H14.out 10
    have a11 := blk_cell H14.out 11
    have b0 := blk_cell H24.out 0
    have b1 := blk_cell H24.out 1
    have b2 := blk_cell H24.out 2
    have b3 := blk_cell H24.out 3
    have b4 := blk_cell H24.out 4
    have b5 := blk_cell H24.out 5
    have b6 := blk_cell H24.out 6
    have b7 := blk_cell H24.out 7
    have b8 := blk_cell H24.out 8
    have b9 := blk_cell H24.out 9
    have b10 := blk_cell H24.out 10
    have b11 := blk_cell H24.out 11
    go_wp2_with fail
    (with_reducible refine (HCS.out _ HB4.out).mono ?_)
    rintro e w5 ⟨rfl, hb⟩
    have HB5 := Lib.hid (HB4.out.trans (hb.mono HB4.out.size))
    have H15 := Lib.hid (blk_below H14.out hb (blk_lt H14.out))
    clear hb HB4 H14 H24 HCS a0 a1 a2 a3 a4 a5 a6 a7 a8 a9 a10 a11 b0 b1 b2 b3 b4 b5 b6 b7 b8 b9 b10 b11
    have a0 := blk_cell H15.out 0
    have a1 := blk_cell H15.out 1
    have a2 := blk_cell H15.out 2
    have a3 := blk_cell H15.out 3
    have a4 := blk_cell H15.out 4
    have a5 := blk_cell H15.out 5
    have a6 := blk_cell H15.out 6
    have a7 := blk_cell H15.out 7
    have a8 := blk_cell H15.out 8
    have a9 := blk_cell H15.out 9
    have a10 := blk_cell H15.out 10
    have a11 := blk_cell H15.out 11
    go_wp2_with fail
    (with_reducible refine (HCC.out _ HB5.out).mono ?_)
    rintro e w6 ⟨rfl, hb⟩
    have HB6 := Lib.hid (HB5.out.trans (hb.mono HB5.out.size))
    clear hb HB5 H15 HCC a0 a1 a2 a3 a4 a5 a6 a7 a8 a9 a10 a11
    go_wp2_with fail
    go_ret
    exact ⟨rfl, HB6.out⟩

theorem confSames_any (A D : Option Addr) (cap cap' : Nat) (zs us : List Int) (c d : Cf) (w : World) (hr : RdI w w.heap.size A zs) (hs : RdI w w.heap.size D us) (hz : zs.length ≤ 9223372036854775807) (hu : us.length ≤ 9223372036854775807) (h64 : Cf64 zs c) (g64 : Cf64 us d) (hp : Pow w.heap.size w) :
    Calls Tryz.prog 5 #[.agg (cfCells A zs.length cap c), .agg (cfCells D us.length cap' d)] w fun e w' => e = .returned (.bool true) ∧ Below w.heap.size w w' := by
  by_cases h1 : 40 < zs.length
  · exact sames_far A D cap cap' zs us c d w (.inl h1) hz hu
  by_cases h2 : 40 < us.length
  · exact sames_far A D cap cap' zs us c d w (.inr h2) hz hu
  exact sames_near A D cap cap' zs us c d w hr hs h1 h2 h64 g64 hp

end Go.Proofs.YtiokdfkddcokoaaGreatDoor
