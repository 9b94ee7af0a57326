/- Walk: the reference's Same of two configurations. Conditions: none. -/
import Derived.Test.YtiokdfkddcokoaaGreatDoorSameP
namespace Go.Proofs.YtiokdfkddcokoaaGreatDoor
open Go.RowKit

theorem same_no0 {zs us : List Int} {c d : Cf} (h : zs ≠ us) : sameCf zs us c d = false := by unfold sameCf; rw [decide_eq_false h]; rfl
theorem same_no9 {zs us : List Int} {c d : Cf} (h : nums9 c ≠ nums9 d) : sameCf zs us c d = false := by unfold sameCf; rw [decide_eq_false h]; simp
theorem same_yes {zs us : List Int} {c d : Cf} (h0 : zs = us) (h1 : c.ra = d.ra) (h2 : c.mo = d.mo) (h3 : nums9 c = nums9 d) : sameCf zs us c d = true := by unfold sameCf; simp [h0, h1, h2, h3]

set_option maxRecDepth 100000 in
set_option maxHeartbeats 8000000 in
theorem refSame_any (A D : Option Addr) (cap cap' : Nat) (zs us : List Int) (c d : Cf) (w : World) (hr : RdI w w.heap.size A zs) (hs : RdI w w.heap.size D us) (hz : zs.length ≤ 9223372036854775807) (hu : us.length ≤ 9223372036854775807) :
    Calls Tryz.prog 10 #[.agg (cfCells A zs.length cap c), .agg (cfCells D us.length cap' d)] w fun e w' => e = .returned (.bool (sameCf zs us c d)) ∧ Below w.heap.size w w' := by
  have hb1 := (Below.refl w.heap.size w).alloc (Nat.le_refl _) (.cells (cfCells A zs.length cap c) 24)
  have hb2 := hb1.alloc hb1.size (.cells (cfCells D us.length cap' d) 24)
  have h1 := blk_alloc (heap_alloc_new w (.cells (cfCells A zs.length cap c) 24)) (.cells (cfCells D us.length cap' d) 24)
  have h2 := heap_alloc_new (w.alloc (.cells (cfCells A zs.length cap c) 24)) (.cells (cfCells D us.length cap' d) 24)
  rw [World.size_alloc] at h2
  have HRZ := Lib.hid (fun W (hb : Below w.heap.size w W) => (hr.below hb).more hb.size)
  have HRU := Lib.hid (fun W (hb : Below w.heap.size w W) => (hs.below hb).more hb.size)
  have H1 := Lib.hid h1
  have H2 := Lib.hid h2
  have HB2 := Lib.hid hb2
  have HFC := Lib.hid (fun W => refFields_any A zs.length cap c W)
  have HFD := Lib.hid (fun W => refFields_any D us.length cap' d W)
  have HN0 := Lib.hid (fun h => same_no0 (zs := zs) (us := us) (c := c) (d := d) h)
  have HN9 := Lib.hid (fun h => same_no9 (zs := zs) (us := us) (c := c) (d := d) h)
  have HYS := Lib.hid (fun h0 h1 h2 h3 => same_yes (zs := zs) (us := us) (c := c) (d := d) h0 h1 h2 h3)
  have HN1 := Lib.hid (show c.ra ≠ d.ra → sameCf zs us c d = false from fun h => by unfold sameCf; rw [decide_eq_false h]; simp)
  have HN2 := Lib.hid (show c.mo ≠ d.mo → sameCf zs us c d = false from fun h => by unfold sameCf; rw [decide_eq_false h]; simp)
  have hzl : (zs.length : Int) ≤ 9223372036854775807 := by omega
  have hul : (us.length : Int) ≤ 9223372036854775807 := by omega
  generalize sameCf zs us c d = R at HN0 HN9 HYS HN1 HN2 ⊢
  clear hb1 hb2 h1 h2 hr hs hz hu
  unfold cfCells at H1 H2 HB2 HFC HFD ⊢
  by_cases hl : zs.length = us.length
  rotate_left
  · as_aux_lemma =>
      have HR := Lib.hid (HN0.out (fun e => hl (by rw [e])))
      have hne : ((zs.length : Int) != (us.length : Int)) = true := by simp; omega
      go_enter Tryz.func10, Tryz.ntmps10
      go_wp2_with fail
      go_ret
      exact ⟨ret_bool HR.out.symm, HB2.out⟩
  have hne : ((zs.length : Int) != (us.length : Int)) = false := by simp [hl]
  have HL := Lib.hid hl
  clear hl
  by_cases hra : c.ra = d.ra
  rotate_left
  · as_aux_lemma =>
      have HR := Lib.hid (HN1.out hra)
      have e1 : (c.ra != d.ra) = true := by simp [hra]
      clear hra
      go_enter Tryz.func10, Tryz.ntmps10
      go_wp2_with fail
      go_ret
      exact ⟨ret_bool HR.out.symm, HB2.out⟩
  have e1 : (c.ra != d.ra) = false := by simp [hra]
  have HRA := Lib.hid hra
  clear hra
  by_cases hmo : c.mo = d.mo
  rotate_left
  · as_aux_lemma =>
      have HR := Lib.hid (HN2.out hmo)
      have e2 : (c.mo != d.mo) = true := by simp [hmo]
      clear hmo
      go_enter Tryz.func10, Tryz.ntmps10
      go_wp2_with fail
      go_ret
      exact ⟨ret_bool HR.out.symm, HB2.out⟩
  have e2 : (c.mo != d.mo) = false := by simp [hmo]
  have HMO := Lib.hid hmo
  clear hmo HN1 HN2
  go_enter Tryz.func10, Tryz.ntmps10
  go_wp2_with fail
  go_loopw [5] (fun i wr => ∃ k : Nat, k ≤ zs.length ∧ i = .int .i64 k ∧ Hid (zs.take k = us.take k) ∧ Hid (Below w.heap.size w wr) ∧
    Hid (wr.heap[w.heap.size]? = some (.cells #[.slice A zs.length cap, .int .i64 c.sh, .int .i64 c.ra, .int .i64 c.mo, .int .i64 c.wo, .int .i64 c.ba, .int .i64 c.mi, .int .i64 c.st, .int .i64 c.bu, .int .i64 c.ch, .int .i64 c.wi, .int .i64 c.ca] 24 (0, 0))) ∧
    Hid (wr.heap[w.heap.size + 1]? = some (.cells #[.slice D us.length cap', .int .i64 d.sh, .int .i64 d.ra, .int .i64 d.mo, .int .i64 d.wo, .int .i64 d.ba, .int .i64 d.mi, .int .i64 d.st, .int .i64 d.bu, .int .i64 d.ch, .int .i64 d.wi, .int .i64 d.ca] 24 (0, 0)))) (fun i _ => zs.length - (intOf i).toNat)
  case atStart => exact ⟨0, Nat.zero_le _, rfl, Lib.hid rfl, HB2, H1, H2⟩
  case round =>
    obtain ⟨k, hk, rfl, HT, HBk, H1k, H2k⟩ := hrel
    clear H1 H2 HB2
    have a0 := blk_cell H1k.out 0
    have b0 := blk_cell H2k.out 0
    by_cases hlt : k < zs.length
    · clear HFC HFD
      have h2 : k < us.length := by have := HL.out; omega
      obtain ⟨b, off, rfl, hb, hcz⟩ := (HRZ.out wr HBk.out).at_ (by omega)
      obtain ⟨b', off', rfl, hb', hcz'⟩ := (HRU.out wr HBk.out).at_ (by omega)
      obtain ⟨x, hx⟩ := get_some zs k hlt
      obtain ⟨u, hu⟩ := get_some us k h2
      have c1 : wr.cell? ⟨b, off + k, none⟩ = some (.int .i64 x) := hcz k x hx
      have c2 : wr.cell? ⟨b', off' + k, none⟩ = some (.int .i64 u) := hcz' k u hu
      have tx : zs.take (k + 1) = zs.take k ++ [x] := by rw [List.take_add_one, hx]; rfl
      have tu : us.take (k + 1) = us.take k ++ [u] := by rw [List.take_add_one, hu]; rfl
      have h0 : (0 : Int) ≤ (k : Int) := by omega
      have h1' : (k : Int) < (zs.length : Int) := by omega
      have h2' : (k : Int) < (us.length : Int) := by omega
      by_cases he : x = u
      · have HT' := Lib.hid (show zs.take (k + 1) = us.take (k + 1) by rw [tx, tu, HT.out, he])
        have hq : (x != u) = false := by simp [he]
        clear hcz hcz' hx hu tx tu he
        go_wp2_with fail
        go_quiet (fail)
        go_wp2_with fail
        go_roundw
        case rel => exact ⟨k + 1, by omega, by go_num, HT', Lib.hid (below_drewN HBk.out _), H1k, H2k⟩
        case measure => simp [intOf]; omega
      · have HN := Lib.hid (HN0.out fun e => he (by rw [e, hu] at hx; injection hx with hx; exact hx.symm))
        have hq : (x != u) = true := by simp [he]
        clear hcz hcz' hx hu tx tu he
        go_wp2_with fail
        go_quiet (fail)
        go_wp2_with fail
        go_ret
        exact ⟨ret_bool HN.out.symm, below_drewN HBk.out _⟩
    · have HZU := Lib.hid (show zs = us by
        have := HT.out
        have hl := HL.out
        rwa [List.take_of_length_le (by omega), List.take_of_length_le (by omega)] at this)
      clear HN0 HT HRZ HRU
      have hge : ¬ (k : Int) < (zs.length : Int) := by omega
      have a1 := blk_cell H1k.out 1
      have a2 := blk_cell H1k.out 2
      have a3 := blk_cell H1k.out 3
      have a4 := blk_cell H1k.out 4
      have a5 := blk_cell H1k.out 5
      have a6 := blk_cell H1k.out 6
      have a7 := blk_cell H1k.out 7
      have a8 := blk_cell H1k.out 8
      have a9 := blk_cell H1k.out 9
      have a10 := blk_cell H1k.out 10
      have a11 := blk_cell H1k.out 11
      go_wp2_with fail
      (with_reducible refine (HFC.out _).mono ?_)
      rintro e w1 ⟨q, rfl, hq, hql, hb⟩
      have HB3 := Lib.hid (HBk.out.trans (hb.mono HBk.out.size))
      have H23 := Lib.hid (blk_below H2k.out hb (blk_lt H2k.out))
      have HQ := Lib.hid hq
      clear hq hb a0 b0 a1 a2 a3 a4 a5 a6 a7 a8 a9 a10 a11 H1k H2k HBk hql
      have a0 := blk_cell H23.out 0
      have a1 := blk_cell H23.out 1
      have a2 := blk_cell H23.out 2
      have a3 := blk_cell H23.out 3
      have a4 := blk_cell H23.out 4
      have a5 := blk_cell H23.out 5
      have a6 := blk_cell H23.out 6
      have a7 := blk_cell H23.out 7
      have a8 := blk_cell H23.out 8
      have a9 := blk_cell H23.out 9
      have a10 := blk_cell H23.out 10
      have a11 := blk_cell H23.out 11
      go_wp2_with fail
      (with_reducible refine (HFD.out _).mono ?_)
      rintro e w2 ⟨q', rfl, hq', hql', hb⟩
      have HB4 := Lib.hid (HB3.out.trans (hb.mono HB3.out.size))
      have HQ4 := Lib.hid (blk_below HQ.out hb (blk_lt HQ.out))
      have HQ' := Lib.hid hq'
      clear hq' hb a0 a1 a2 a3 a4 a5 a6 a7 a8 a9 a10 a11 H23 HB3 hql' HFC HFD HQ
      go_wp2_with fail
      go_loopw [8] (fun i wr => ∃ k : Nat, k ≤ 9 ∧ i = .int .i64 k ∧ Hid ((nums9 c).take k = (nums9 d).take k) ∧ Hid (Below w.heap.size w wr) ∧
        Hid (wr.heap[q]? = some (.cells ((nums9 c).map (Value.int .i64)).toArray 3 (0, 0))) ∧ Hid (wr.heap[q']? = some (.cells ((nums9 d).map (Value.int .i64)).toArray 3 (0, 0)))) (fun i _ => 9 - (intOf i).toNat)
      case atStart => exact ⟨0, Nat.zero_le _, rfl, Lib.hid rfl, HB4, HQ4, HQ'⟩
      case round =>
        obtain ⟨m, hm, rfl, HTm, HBm, HQm, HQm'⟩ := hrel
        clear HB4 HQ4 HQ'
        by_cases hm9 : m < 9
        · obtain ⟨x, hx⟩ := get_some (nums9 c) m hm9
          obtain ⟨u, hu⟩ := get_some (nums9 d) m hm9
          have c1 : wr.cell? ⟨q, m, none⟩ = some (.int .i64 x) := (blk_cell HQm.out m).trans (by simp [hx])
          have c2 : wr.cell? ⟨q', m, none⟩ = some (.int .i64 u) := (blk_cell HQm'.out m).trans (by simp [hu])
          have hql := blk_lt HQm.out
          have hql' := blk_lt HQm'.out
          have tx : (nums9 c).take (m + 1) = (nums9 c).take m ++ [x] := by rw [List.take_add_one, hx]; rfl
          have tu : (nums9 d).take (m + 1) = (nums9 d).take m ++ [u] := by rw [List.take_add_one, hu]; rfl
          have h0 : (0 : Int) ≤ (m : Int) := by omega
          have h1' : (m : Int) < 9 := by omega
          by_cases he : x = u
          · have HT' := Lib.hid (show (nums9 c).take (m + 1) = (nums9 d).take (m + 1) by rw [tx, tu, HTm.out, he])
            have hq : (x != u) = false := by simp [he]
            clear hx hu tx tu he
            go_wp2_with fail
            go_quiet (fail)
            go_wp2_with fail
            go_roundw
            case rel => exact ⟨m + 1, by omega, by go_num, HT', Lib.hid (below_drewN HBm.out _), HQm, HQm'⟩
            case measure => simp [intOf]; omega
          · have HN := Lib.hid (HN9.out fun e => he (by rw [e, hu] at hx; injection hx with hx; exact hx.symm))
            have hq : (x != u) = true := by simp [he]
            clear hx hu tx tu he
            go_wp2_with fail
            go_quiet (fail)
            go_wp2_with fail
            go_ret
            exact ⟨ret_bool HN.out.symm, below_drewN HBm.out _⟩
        · have HE := Lib.hid (HYS.out HZU.out HRA.out HMO.out (by
            have := HTm.out
            rwa [List.take_of_length_le (by show 9 ≤ m; omega), List.take_of_length_le (by show 9 ≤ m; omega)] at this))
          go_wp2_with fail
          go_ret
          exact ⟨ret_bool HE.out.symm, HBm.out⟩

end Go.Proofs.YtiokdfkddcokoaaGreatDoor
