/- Walks: slices.Equal at numbers, data.Same, data.Clone. Conditions: none. -/
import Derived.Test.YtajilipbnfpemaaDoorBump
namespace Go.Proofs.YtajilipbnfpemaaDoor
open Go.RowKit

set_option maxHeartbeats 2000000 in
theorem equal64_any (A C : Option Addr) (cap cap' : Nat) (xs us : List Int) (w : World) (hr : RdI w w.heap.size A xs) (hs : RdI w w.heap.size C us) (hx : xs.length ≤ 9223372036854775807) (hu : us.length ≤ 9223372036854775807) :
    Calls Tryd.prog 62 #[.slice A xs.length cap, .slice C us.length cap'] w fun e w' => e = .returned (.bool (decide (xs = us))) ∧ Below w.heap.size w w' := by
  have HR := Lib.hid hr
  have HS := Lib.hid hs
  have hxl : (xs.length : Int) ≤ 9223372036854775807 := by omega
  have hul : (us.length : Int) ≤ 9223372036854775807 := by omega
  clear hr hs hx hu
  by_cases hl : xs.length = us.length
  · have HL := Lib.hid hl
    have hne : ((xs.length : Int) != (us.length : Int)) = false := by simp [hl]
    clear hl
    go_enter Tryd.func62, Tryd.ntmps62
    go_wp2_with fail
    go_loopw [13] (fun i wr => ∃ k : Nat, k ≤ xs.length ∧ i = .int .i64 k ∧ Hid (xs.take k = us.take k) ∧ Hid (Below w.heap.size w wr)) (fun i _ => xs.length - (intOf i).toNat)
    case atStart => exact ⟨0, Nat.zero_le _, rfl, Lib.hid rfl, Lib.hid (Below.refl _ _)⟩
    case round =>
      obtain ⟨k, hk, rfl, HT, HBk⟩ := hrel
      by_cases h1 : k < xs.length
      · have h2 : k < us.length := by have := HL.out; omega
        obtain ⟨b, off, rfl, hb, hcz⟩ := HR.out.at_ (by omega)
        obtain ⟨b', off', rfl, hb', hcz'⟩ := HS.out.at_ (by omega)
        obtain ⟨x, hx⟩ := get_some xs k h1
        obtain ⟨u, hu⟩ := get_some us k h2
        have c1 : wr.cell? ⟨b, off + k, none⟩ = some (.int .i64 x) := (HBk.out.cell (p := ⟨b, off + k, none⟩) hb).trans (hcz k x hx)
        have c2 : wr.cell? ⟨b', off' + k, none⟩ = some (.int .i64 u) := (HBk.out.cell (p := ⟨b', off' + k, none⟩) hb').trans (hcz' k u hu)
        have tx : xs.take (k + 1) = xs.take k ++ [x] := by rw [List.take_add_one, hx]; rfl
        have tu : us.take (k + 1) = us.take k ++ [u] := by rw [List.take_add_one, hu]; rfl
        have h0 : (0 : Int) ≤ (k : Int) := by omega
        have h1' : (k : Int) < (xs.length : Int) := by omega
        have h2' : (k : Int) < (us.length : Int) := by omega
        by_cases he : x = u
        · have HT' := Lib.hid (show xs.take (k + 1) = us.take (k + 1) by rw [tx, tu, HT.out, he])
          have hq : (x != u) = false := by simp [he]
          clear hcz hcz' hx hu tx tu he
          go_wp2_with fail
          go_quiet (fail)
          go_wp2_with fail
          go_roundw
          case rel => exact ⟨k + 1, by omega, by go_num, HT', Lib.hid (below_drewN HBk.out _)⟩
          case measure => simp [intOf]; omega
        · have HN := Lib.hid (show decide (xs = us) = false from decide_eq_false fun e => he (by rw [e, hu] at hx; injection hx with hx; exact hx.symm))
          have hq : (x != u) = true := by simp [he]
          clear hcz hcz' hx hu tx tu he
          go_wp2_with fail
          go_quiet (fail)
          go_wp2_with fail
          go_ret
          exact ⟨ret_bool HN.out.symm, below_drewN HBk.out _⟩
      · have HE := Lib.hid (show decide (xs = us) = true by
          have := HT.out
          have hl := HL.out
          rw [List.take_of_length_le (by omega), List.take_of_length_le (by omega)] at this
          exact decide_eq_true this)
        go_wp2_with fail
        go_ret
        exact ⟨ret_bool HE.out.symm, HBk.out⟩
  · have HN := Lib.hid (show decide (xs = us) = false from decide_eq_false fun e => hl (by rw [e]))
    have hne : ((xs.length : Int) != (us.length : Int)) = true := by simp; omega
    go_enter Tryd.func62, Tryd.ntmps62
    go_wp2_with fail
    go_ret
    exact ⟨ret_bool HN.out.symm, Below.refl _ _⟩

set_option maxRecDepth 100000 in
set_option maxHeartbeats 1000000 in
theorem sameData_any (ex ey : Ex) (w : World) (hr : RdX w w.heap.size ex) (hs : RdX w w.heap.size ey) :
    Calls Tryd.prog 38 #[ex.val, ey.val] w fun e w' => e = .returned (.bool (sameEx ex ey)) ∧ Below w.heap.size w w' := by
  have HX := Lib.hid (fun W (hW : Below w.heap.size w W) => equal64_any ex.ax ey.ax ex.cx ey.cx ex.xs ey.xs W ((hr.1.below hW).more hW.size) ((hs.1.below hW).more hW.size) hr.2.2.2.2.1 hs.2.2.2.2.1)
  have HY := Lib.hid (fun W (hW : Below w.heap.size w W) => equal64_any ex.ay ey.ay ex.cy ey.cy ex.ys ey.ys W ((hr.2.1.below hW).more hW.size) ((hs.2.1.below hW).more hW.size) hr.2.2.2.2.2 hs.2.2.2.2.2)
  have hS : sameEx ex ey = (decide (ex.xs = ey.xs) && decide (ex.ys = ey.ys)) := rfl
  obtain ⟨ax, xs, cx, ay, ys, cy⟩ := ex
  obtain ⟨bx, us, dx, by', vs, dy⟩ := ey
  unfold Ex.val
  dsimp only at HX HY hS ⊢
  have HB := Lib.hid (((Below.refl w.heap.size w).alloc (Nat.le_refl _) (.cells #[.slice ax xs.length cx, .slice ay ys.length cy] 46)).alloc (by simp) (.cells #[.slice bx us.length dx, .slice by' vs.length dy] 46))
  have HE := Lib.hid (blk_alloc (heap_alloc_new w (.cells #[.slice ax xs.length cx, .slice ay ys.length cy] 46)) (.cells #[.slice bx us.length dx, .slice by' vs.length dy] 46))
  have HF := Lib.hid (heap_alloc_new (w.alloc (.cells #[.slice ax xs.length cx, .slice ay ys.length cy] 46)) (.cells #[.slice bx us.length dx, .slice by' vs.length dy] 46))
  rw [World.size_alloc] at HF
  clear hr hs
  generalize decide (xs = us) = b1 at HX hS
  generalize decide (ys = vs) = b2 at HY hS
  have HS := Lib.hid hS
  clear hS
  have c0 := blk_cell HE.out 0
  have d0 := blk_cell HF.out 0
  cases b1
  · go_enter Tryd.func38, Tryd.ntmps38
    go_wp2_with fail
    (with_reducible refine (HX.out _ HB.out).mono ?_)
    rintro e w1 ⟨rfl, hb1⟩
    have HB1 := Lib.hid (HB.out.trans (hb1.mono HB.out.size))
    clear hb1
    go_wp2_with fail
    go_ret
    exact ⟨by rw [HS.out]; rfl, HB1.out⟩
  · go_enter Tryd.func38, Tryd.ntmps38
    go_wp2_with fail
    (with_reducible refine (HX.out _ HB.out).mono ?_)
    rintro e w1 ⟨rfl, hb1⟩
    have HB1 := Lib.hid (HB.out.trans (hb1.mono HB.out.size))
    have HE1 := Lib.hid (blk_below HE.out hb1 (blk_lt HE.out))
    have HF1 := Lib.hid (blk_below HF.out hb1 (blk_lt HF.out))
    clear hb1 HB HE HF c0 d0
    have c1 := blk_cell HE1.out 1
    have d1 := blk_cell HF1.out 1
    go_wp2_with fail
    (with_reducible refine (HY.out _ HB1.out).mono ?_)
    rintro e w2 ⟨rfl, hb2⟩
    have HB2 := Lib.hid (HB1.out.trans (hb2.mono HB1.out.size))
    clear hb2
    go_wp2_with fail
    go_ret
    exact ⟨by rw [HS.out]; rfl, HB2.out⟩

set_option maxRecDepth 100000 in
set_option maxHeartbeats 1000000 in
theorem cloneOne_any (ex : Ex) (w : World) (hr : RdX w w.heap.size ex) (hl : ex.xs.length ≤ 1099511627776 ∧ ex.ys.length ≤ 1099511627776) :
    Calls Tryd.prog 61 #[ex.val] w fun e w' => ∃ c : Ex, e = .returned (.tuple #[c.val, .bool true]) ∧ CopyOf w.heap.size w' ex c ∧ Below w.heap.size w w' := by
  have hb0 := (((Below.refl w.heap.size w).alloc (Nat.le_refl _) (.cells #[.slice ex.ax ex.xs.length ex.cx, .slice ex.ay ex.ys.length ex.cy] 46)).alloc (by simp) (.cells #[.slice none 0 0, .slice none 0 0] 46))
  have HB := Lib.hid hb0
  have HC := Lib.hid (copied_any ex _ ((hr.below hb0).more hb0.size) hl)
  have HF := Lib.hid (newAt (show (w.alloc (.cells #[.slice ex.ax ex.xs.length ex.cx, .slice ex.ay ex.ys.length ex.cy] 46)).heap.size = w.heap.size + 1 by simp) (.cells #[.slice none 0 0, .slice none 0 0] 46))
  unfold Ex.val at HC ⊢
  clear hr hl hb0
  go_enter Tryd.func61, Tryd.ntmps61
  go_wp2_with fail
  (with_reducible refine HC.out.mono ?_)
  rintro e w1 ⟨⟨A1, xs1, k1, A2, xs2, k2⟩, rfl, hcp, hb1⟩
  have HO1 := Lib.hid (hcp.more HB.out.size)
  have HB1 := Lib.hid (HB.out.trans (hb1.mono HB.out.size))
  have HF1 := Lib.hid (blk_keep HF.out hb1)
  have F0 := blk_cell HF1.out 0
  have F1 := blk_cell HF1.out 1
  have Z0 := blk_frozen HF1.out 0
  have Z1 := blk_frozen HF1.out 1
  clear hcp hb1 HB HF HC
  dsimp only
  go_wp2_with fail
  have K := blk_set (blk_set HF1.out 0 (.slice A1 xs1.length k1)) 1 (.slice A2 xs2.length k2)
  have K0 := blk_cell K 0
  have K1 := blk_cell K 1
  have HO2 := Lib.hid (HO1.out.set2 HF1.out (p := ⟨w.heap.size + 1, 0, none⟩) (q := ⟨w.heap.size + 1, 1, none⟩) rfl rfl (.slice A1 xs1.length k1) (.slice A2 xs2.length k2))
  have HB3 := Lib.hid ((HB1.out.setCell (p := ⟨w.heap.size + 1, 0, none⟩) (by simp) (.slice A1 xs1.length k1)).setCell (p := ⟨w.heap.size + 1, 1, none⟩) (by simp) (.slice A2 xs2.length k2))
  clear F0 F1 Z0 Z1 HB1 HF1 HO1 K
  refine bodyPost_ret (v := .tuple #[.agg #[.slice A1 xs1.length k1, .slice A2 xs2.length k2], .bool true]) ?_ rfl ⟨⟨A1, xs1, k1, A2, xs2, k2⟩, rfl, HO2.out, HB3.out⟩
  simp [results, Tryd.results61, go_sem, K0, K1]

set_option maxRecDepth 100000 in
set_option maxHeartbeats 2000000 in
theorem mappedClone_any (A : Option Addr) (cap : Nat) (l : List Ex) (w : World) (hr : RdE w w.heap.size A l) (hm : l.length ≤ 100000) (hl : ∀ ex ∈ l, ex.xs.length ≤ 1099511627776 ∧ ex.ys.length ≤ 1099511627776) :
    Calls Tryd.prog 60 #[.slice A l.length cap, .func (.func 61) #[] #[]] w
      fun e w' => ∃ v L, e = .returned (.tuple #[v, .bool true]) ∧ Copies w.heap.size w' v l L ∧ Below w.heap.size w w' := by
  obtain ⟨i0, hi, hz0, hz1, hz2⟩ := info_parts infoEx
  have HI := Lib.hid (And.intro hi (And.intro hz0 (And.intro hz1 hz2)))
  have HT := Lib.hid (fun (ex : Ex) (hex : ex ∈ l) W (hW : Below w.heap.size w W) => cloneOne_any ex W (((hr.2 ex hex).below hW).more hW.size) (hl ex hex))
  have HR := Lib.hid hr
  have HL := Lib.hid hm
  clear hi hz0 hz1 hz2 hr hl hm
  go_enter Tryd.func60, Tryd.ntmps60
  go_wp2_with fail
  go_loopw [6, 13] (fun v i wr => ∃ k : Nat, k ≤ l.length ∧ i = .int .i64 k ∧ Hid (CopiesK w.heap.size wr v l k) ∧ Hid (Below w.heap.size w wr)) (fun _ i _ => l.length - (intOf i).toNat)
  case atStart => exact ⟨0, Nat.zero_le _, rfl, Lib.hid ⟨[], by simpa using Copies.nil_ w.heap.size w⟩, Lib.hid (Below.refl _ _)⟩
  case round =>
    obtain ⟨k, hk, rfl, HOk, HBk⟩ := hrel
    have hzl : (l.length : Int) ≤ 100000 := by have h := HL.out; omega
    by_cases hlt : k < l.length
    · obtain ⟨b, off, rfl, hb, hcs⟩ := HR.out.at_ (by omega)
      obtain ⟨ex, hex⟩ := get_some l k hlt
      have d1 : wr.cell? ⟨b, off + k * 2, none⟩ = some (.slice ex.ax ex.xs.length ex.cx) := (HBk.out.cell (p := ⟨b, off + k * 2, none⟩) hb).trans (hcs k ex hex).1
      have d2 : wr.cell? ⟨b, off + k * 2 + 1, none⟩ = some (.slice ex.ay ex.ys.length ex.cy) := (HBk.out.cell (p := ⟨b, off + k * 2 + 1, none⟩) hb).trans (hcs k ex hex).2
      have HBa := Lib.hid (HBk.out.alloc HBk.out.size (.cells #[.slice ex.ax ex.xs.length ex.cx, .slice ex.ay ex.ys.length ex.cy] 46))
      have HTx := Lib.hid (HT.out ex (List.mem_of_getElem? hex) _ HBa.out)
      unfold Ex.val at HTx
      have HEX := Lib.hid hex
      obtain ⟨L, hL⟩ := HOk.out
      have HLk := Lib.hid (show L.length = k by rw [hL.1, List.length_take]; omega)
      have HLL := Lib.hid (hL.alloc (.cells #[.slice ex.ax ex.xs.length ex.cx, .slice ex.ay ex.ys.length ex.cy] 46))
      clear hcs hex hL HOk
      go_wp2_with fail
      (with_reducible refine HTx.out.mono ?_)
      rintro e w1 ⟨⟨A1, xs1, k1, A2, xs2, k2⟩, rfl, hcp, hb1⟩
      have HB1 := Lib.hid (HBa.out.trans (hb1.mono HBa.out.size))
      have HO1 := Lib.hid (HLL.out.below hb1)
      have HC1 := Lib.hid (hcp.more HBa.out.size)
      clear hb1 HBk HBa HLL d1 d2 hcp HTx
      dsimp only
      have HW := Lib.hid ((HO1.out.alloc (.cells #[.slice A1 xs1.length k1, .slice A2 xs2.length k2] 46)).alloc (.cells #[.slice A1 xs1.length k1, .slice A2 xs2.length k2] 46))
      have HV := Lib.hid ((HC1.out.alloc (.cells #[.slice A1 xs1.length k1, .slice A2 xs2.length k2] 46)).alloc (.cells #[.slice A1 xs1.length k1, .slice A2 xs2.length k2] 46))
      have HN := Lib.hid (newAt (size_one w1 (.cells #[.slice A1 xs1.length k1, .slice A2 xs2.length k2] 46)) (.cells #[.slice A1 xs1.length k1, .slice A2 xs2.length k2] 46))
      have HB2 := Lib.hid ((HB1.out.alloc HB1.out.size (.cells #[.slice A1 xs1.length k1, .slice A2 xs2.length k2] 46)).alloc (by have := HB1.out.size; simp; omega) (.cells #[.slice A1 xs1.length k1, .slice A2 xs2.length k2] 46))
      go_wp2_with (at_builtin; refine wpList_append_own _ rfl _ _ 34 rfl w.heap.size 46 i0 (.agg #[.slice none 0 0, .slice none 0 0]) 2 48 Tryd.underlying34 HI.out.1 HI.out.2.1 HI.out.2.2.1 HI.out.2.2.2 rfl (by decide) _ _ _ rfl HW.out.2.1 ⟨w1.heap.size + 1, 0, none⟩ 1 1 [.slice A1 xs1.length k1, .slice A2 xs2.length k2] rfl rfl ?c1 ?c2 ?c3 ?c4 ?c5 ?_)
      case c1 =>
        intro j u hj
        rw [add_none, Nat.zero_add, blk_cell HN.out]
        simpa using hj
      case c2 => intro u hu; simp at hu; rcases hu with rfl | rfl <;> rfl
      case c3 => have h := HLk.out; have h' := HL.out; unfold maxLen; omega
      case c4 => have h := HLk.out; have h' := HL.out; omega
      case c5 => have := HB1.out.size; simp; omega
      intro v' w2 hown' hgrow _
      have HB3 := Lib.hid (below_own HB2.out (Nat.le_refl _) (Nat.le_refl _) HW.out.2.1 hgrow)
      have HS := Lib.hid (HW.out.step HEX.out HV.out hown' hgrow)
      clear hown' hgrow HB1 HO1 HC1 HW HV HN HB2
      go_wp2_with fail
      go_roundw
      case rel => exact ⟨k + 1, by omega, by go_num, Lib.hid ⟨_, HS.out⟩, HB3⟩
      case measure => simp [intOf]; omega
    · have hke : k = l.length := by omega
      subst hke
      obtain ⟨L, hL⟩ := HOk.out
      have hO : Copies w.heap.size wr u6 l L := by rw [List.take_length] at hL; exact hL
      have HO := Lib.hid hO
      have hge : l.length ≤ l.length := Nat.le_refl _
      clear hO hL
      go_wp2_with fail
      go_ret2
      exact ⟨_, L, rfl, HO.out, HBk.out⟩

set_option maxRecDepth 100000 in
set_option maxHeartbeats 1000000 in
theorem dataClone_any (A : Option Addr) (cap : Nat) (l : List Ex) (w : World) (hr : RdE w w.heap.size A l) (hm : l.length ≤ 100000) (hl : ∀ ex ∈ l, ex.xs.length ≤ 1099511627776 ∧ ex.ys.length ≤ 1099511627776) :
    Calls Tryd.prog 37 #[.slice A l.length cap] w fun e w' => ∃ v L, e = .returned v ∧ Copies w.heap.size w' v l L ∧ Below w.heap.size w w' := by
  have HM := Lib.hid (mappedClone_any A cap l w hr hm hl)
  clear hr hm hl
  go_enter Tryd.func37, Tryd.ntmps37
  go_wp2_with fail
  (with_reducible refine HM.out.mono ?_)
  rintro e w1 ⟨v, L, rfl, hC, hb1⟩
  have HC := Lib.hid hC
  clear hC
  go_wp2_with fail
  go_ret
  exact ⟨v, L, rfl, HC.out, hb1⟩

end Go.Proofs.YtajilipbnfpemaaDoor
