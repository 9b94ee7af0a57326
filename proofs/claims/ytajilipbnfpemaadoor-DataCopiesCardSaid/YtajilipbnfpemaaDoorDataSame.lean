/- Walks: the reference's Text and Same of examples; data.Text where the number of bits is wrong. Conditions: none. -/
import Derived.Test.YtajilipbnfpemaaDoorRefDataText
namespace Go.Proofs.YtajilipbnfpemaaDoor
open Go.RowKit

theorem same3_any (A C : Option Addr) (cap cap' : Nat) (xs us : List Int) (w : World) (hr : RdI w w.heap.size A xs) (hs : RdI w w.heap.size C us) (hx : xs.length ≤ 9223372036854775807) (hu : us.length ≤ 9223372036854775807) :
    Calls Tryd.prog 58 #[.slice A xs.length cap, .slice C us.length cap'] w fun e w' => e = .returned (.bool (decide (xs = us))) ∧ Below w.heap.size w w' := by
  have HD := Lib.hid (differ_any A C cap cap' xs us w hr hs hx hu)
  clear hr hs hx hu
  go_enter Tryd.func58, Tryd.ntmps58
  go_wp2_with fail
  (with_reducible refine HD.out.mono ?_)
  rintro e w1 ⟨⟨d, rfl, hd⟩, hb1⟩
  have HH := Lib.hid hd
  clear hd
  go_wp2_with fail
  go_ret
  exact ⟨ret_bool (decide_eq_decide.2 HH.out), hb1⟩

def sameEx (e f : Ex) : Bool := decide (e.xs = f.xs) && decide (e.ys = f.ys)

set_option maxRecDepth 100000 in
set_option maxHeartbeats 1000000 in
theorem sameEx_any (ex ey : Ex) (w : World) (hr : RdX w w.heap.size ex) (hs : RdX w w.heap.size ey) :
    Calls Tryd.prog 35 #[ex.val, ey.val] w fun e w' => e = .returned (.bool (sameEx ex ey)) ∧ Below w.heap.size w w' := by
  have HX := Lib.hid (fun W (hW : Below w.heap.size w W) => same3_any ex.ax ey.ax ex.cx ey.cx ex.xs ey.xs W ((hr.1.below hW).more hW.size) ((hs.1.below hW).more hW.size) hr.2.2.2.2.1 hs.2.2.2.2.1)
  have HY := Lib.hid (fun W (hW : Below w.heap.size w W) => same3_any ex.ay ey.ay ex.cy ey.cy ex.ys ey.ys W ((hr.2.1.below hW).more hW.size) ((hs.2.1.below hW).more hW.size) hr.2.2.2.2.2 hs.2.2.2.2.2)
  have hS : sameEx ex ey = (decide (ex.xs = ey.xs) && decide (ex.ys = ey.ys)) := rfl
  obtain ⟨ax, xs, cx, ay, ys, cy⟩ := ex
  obtain ⟨bx, us, dx, by', vs, dy⟩ := ey
  unfold Ex.val
  dsimp only at HX HY hS ⊢
  have HB := Lib.hid (((Below.refl w.heap.size w).alloc (Nat.le_refl _) (.cells #[.slice ax xs.length cx, .slice ay ys.length cy] 46)).alloc (by simp) (.cells #[.slice bx us.length dx, .slice by' vs.length dy] 46))
  have HE := Lib.hid (blk_alloc (heap_alloc_new w (.cells #[.slice ax xs.length cx, .slice ay ys.length cy] 46)) (.cells #[.slice bx us.length dx, .slice by' vs.length dy] 46))
  have HF := Lib.hid (heap_alloc_new (w.alloc (.cells #[.slice ax xs.length cx, .slice ay ys.length cy] 46)) (.cells #[.slice bx us.length dx, .slice by' vs.length dy] 46))
  rw [World.size_alloc] at HF
  clear hr hs
  generalize decide (xs = us) = b1 at HX hS
  generalize decide (ys = vs) = b2 at HY hS
  have HS := Lib.hid hS
  clear hS
  have c0 := blk_cell HE.out 0
  have d0 := blk_cell HF.out 0
  cases b1
  · go_enter Tryd.func35, Tryd.ntmps35
    go_wp2_with fail
    (with_reducible refine (HX.out _ HB.out).mono ?_)
    rintro e w1 ⟨rfl, hb1⟩
    have HB1 := Lib.hid (HB.out.trans (hb1.mono HB.out.size))
    clear hb1
    go_wp2_with fail
    go_ret
    exact ⟨by rw [HS.out]; rfl, HB1.out⟩
  · go_enter Tryd.func35, Tryd.ntmps35
    go_wp2_with fail
    (with_reducible refine (HX.out _ HB.out).mono ?_)
    rintro e w1 ⟨rfl, hb1⟩
    have HB1 := Lib.hid (HB.out.trans (hb1.mono HB.out.size))
    have HE1 := Lib.hid (blk_below HE.out hb1 (blk_lt HE.out))
    have HF1 := Lib.hid (blk_below HF.out hb1 (blk_lt HF.out))
    clear hb1 HB HE HF c0 d0
    have c1 := blk_cell HE1.out 1
    have d1 := blk_cell HF1.out 1
    go_wp2_with fail
    (with_reducible refine (HY.out _ HB1.out).mono ?_)
    rintro e w2 ⟨rfl, hb2⟩
    have HB2 := Lib.hid (HB1.out.trans (hb2.mono HB1.out.size))
    clear hb2
    go_wp2_with fail
    go_ret
    exact ⟨by rw [HS.out]; rfl, HB2.out⟩

set_option maxRecDepth 100000 in
set_option maxHeartbeats 1000000 in
theorem dataText_no (ex : Ex) (q : Int) (hq : ¬ (0 ≤ q ∧ q ≤ 62)) (hl : ex.xs.length ≤ 100000 ∧ ex.ys.length ≤ 100000) (w : World) (hr : RdX w w.heap.size ex) :
    Calls Tryd.prog 36 #[ex.val, .int .i64 q] w fun e w' => e = .returned (.tuple #[.string ⟨#[]⟩, .bool false]) ∧ Below w.heap.size w w' := by
  have HX := Lib.hid (fun W (hW : Below w.heap.size w W) => texts_no ex.ax ex.cx ex.xs q hq hl.1 W ((hr.1.below hW).more hW.size))
  have HY := Lib.hid (fun W (hW : Below w.heap.size w W) => texts_no ex.ay ex.cy ex.ys q hq hl.2 W ((hr.2.1.below hW).more hW.size))
  obtain ⟨ax, xs, cx, ay, ys, cy⟩ := ex
  unfold Ex.val
  dsimp only at HX HY ⊢
  have HB := Lib.hid ((Below.refl w.heap.size w).alloc (Nat.le_refl _) (.cells #[.slice ax xs.length cx, .slice ay ys.length cy] 46))
  have HE := Lib.hid (heap_alloc_new w (.cells #[.slice ax xs.length cx, .slice ay ys.length cy] 46))
  clear hr hl hq
  have c0 := blk_cell HE.out 0
  go_enter Tryd.func36, Tryd.ntmps36
  go_wp2_with fail
  (with_reducible refine (HX.out _ HB.out).mono ?_)
  rintro e w1 ⟨rfl, hb1⟩
  have HB1 := Lib.hid (HB.out.trans (hb1.mono HB.out.size))
  have HE1 := Lib.hid (blk_below HE.out hb1 (blk_lt HE.out))
  clear hb1 HB HE c0
  have c1 := blk_cell HE1.out 1
  go_wp2_with fail
  (with_reducible refine (HY.out _ HB1.out).mono ?_)
  rintro e w2 ⟨rfl, hb2⟩
  have HB2 := Lib.hid (HB1.out.trans (hb2.mono HB1.out.size))
  clear hb2 HB1 c1
  go_wp2_with fail
  go_ret2
  exact ⟨rfl, HB2.out⟩

set_option maxRecDepth 100000 in
set_option maxHeartbeats 1000000 in
theorem refText10_no (ex : Ex) (q : Int) (hq : ¬ (0 ≤ q ∧ q ≤ 62)) (w : World) :
    Calls Tryd.prog 45 #[ex.val, .int .i64 q] w fun e w' => e = .returned (.tuple #[.string ⟨#[]⟩, .bool false]) ∧ Below w.heap.size w w' := by
  obtain ⟨ax, xs, cx, ay, ys, cy⟩ := ex
  unfold Ex.val
  dsimp only
  have HB := Lib.hid ((Below.refl w.heap.size w).alloc (Nat.le_refl _) (.cells #[.slice ax xs.length cx, .slice ay ys.length cy] 46))
  by_cases h0 : q < 0
  · clear hq
    go_enter Tryd.func45, Tryd.ntmps45
    go_wp2_with fail
    go_ret2
    exact ⟨rfl, HB.out⟩
  · have h1 : 62 < q := by omega
    clear hq
    go_enter Tryd.func45, Tryd.ntmps45
    go_wp2_with fail
    go_ret2
    exact ⟨rfl, HB.out⟩

set_option maxRecDepth 100000 in
set_option maxHeartbeats 2000000 in
theorem refText10_yes (ex : Ex) (q : Nat) (hq : q ≤ 62) (hz : (∀ x ∈ ex.xs, In64 x) ∧ ∀ y ∈ ex.ys, In64 y) (hl : ex.xs.length ≤ 100000 ∧ ex.ys.length ≤ 100000) (w : World) (hr : RdX w w.heap.size ex) :
    Calls Tryd.prog 45 #[ex.val, .int .i64 q] w fun e w' => e = .returned (.tuple #[.string ⟨(exTextS ex.xs ex.ys q).1.toArray⟩, .bool (exTextS ex.xs ex.ys q).2]) ∧ Below w.heap.size w w' := by
  have HX := Lib.hid (fun W (hW : Below w.heap.size w W) => refTexts_any ex.ax ex.cx ex.xs q hq hz.1 hl.1 W ((hr.1.below hW).more hW.size))
  have HY := Lib.hid (fun W (hW : Below w.heap.size w W) => refTexts_any ex.ay ex.cy ex.ys q hq hz.2 hl.2 W ((hr.2.1.below hW).more hW.size))
  have hS : exTextS ex.xs ex.ys q = if 0 < ex.xs.length ∧ 0 < ex.ys.length then (exText ex.xs ex.ys q, true) else ([], false) := rfl
  have ht1 := row_len q hq ex.xs hz.1
  have ht2 := row_len q hq ex.ys hz.2
  obtain ⟨ax, xs, cx, ay, ys, cy⟩ := ex
  unfold Ex.val
  dsimp only at HX HY hS hl ht1 ht2 ⊢
  have hcat : exText xs ys q = rowText xs q ++ [32, 62, 32] ++ rowText ys q := rfl
  have hsx : (⟨(rowText xs q).toArray⟩ : ByteArray).size ≤ 100000000 := by simp [ByteArray.size]; omega
  have hsy : (⟨(rowText ys q).toArray⟩ : ByteArray).size ≤ 100000000 := by simp [ByteArray.size]; omega
  have hT : (⟨(rowText xs q).toArray⟩ : ByteArray) ++ ⟨#[32, 62, 32]⟩ ++ ⟨(rowText ys q).toArray⟩ = ⟨(exText xs ys q).toArray⟩ := by
    rw [show (⟨#[32, 62, 32]⟩ : ByteArray) = ⟨([32, 62, 32] : List UInt8).toArray⟩ from rfl, ByteArray.mk_append_mk, ByteArray.mk_append_mk, hcat]
  have HT := Lib.hid hT
  obtain ⟨s, hs⟩ : ∃ s : ByteArray, ⟨(rowText xs q).toArray⟩ = s := ⟨_, rfl⟩
  obtain ⟨t, ht'⟩ : ∃ s : ByteArray, ⟨(rowText ys q).toArray⟩ = s := ⟨_, rfl⟩
  rw [hs, ht'] at HT
  rw [hs] at HX hsx
  rw [ht'] at HY hsy
  have HB := Lib.hid ((Below.refl w.heap.size w).alloc (Nat.le_refl _) (.cells #[.slice ax xs.length cx, .slice ay ys.length cy] 46))
  have HE := Lib.hid (heap_alloc_new w (.cells #[.slice ax xs.length cx, .slice ay ys.length cy] 46))
  have hq0 : ¬ (q : Int) < 0 := by omega
  have hq1 : ¬ (62 : Int) < (q : Int) := by omega
  have hxl : (xs.length : Int) ≤ 100000 := by omega
  have hyl : (ys.length : Int) ≤ 100000 := by omega
  clear hr hz hs ht' hT hcat hl hq ht1 ht2
  have c0 := blk_cell HE.out 0
  have c1 := blk_cell HE.out 1
  by_cases h1 : 0 < xs.length
  · have e1 : ((xs.length : Int) == 0) = false := beq_eq_false_iff_ne.2 (by omega)
    by_cases h2 : 0 < ys.length
    · rw [if_pos ⟨h1, h2⟩] at hS
      have e2 : ((ys.length : Int) == 0) = false := beq_eq_false_iff_ne.2 (by omega)
      have HS := Lib.hid hS
      clear hS h1 h2
      go_enter Tryd.func45, Tryd.ntmps45
      go_wp2_with fail
      have f1 : (9223372036854775807 < s.size + 3) = False := eq_false (by omega)
      have f2 : (9223372036854775807 < s.size + 3 + t.size) = False := eq_false (by omega)
      go_region_held3 (fun w' => w'.cell? ⟨w.heap.size, 0, none⟩ = some (.slice ax xs.length cx) ∧ w'.cell? ⟨w.heap.size, 1, none⟩ = some (.slice ay ys.length cy))
        (first
          | exact ⟨blk_cell HE2.out 0, blk_cell HE2.out 1⟩
          | exact ⟨blk_cell HE1.out 0, blk_cell HE1.out 1⟩
          | exact ⟨blk_cell HE.out 0, blk_cell HE.out 1⟩)
        (first
          | (go_at_call 72
             (with_reducible refine (HX.out _ (below_drew HB.out)).mono ?_)
             rintro e w1 ⟨rfl, hb1⟩
             have HB1 := Lib.hid ((below_drew HB.out).trans (hb1.mono HB.out.size))
             have HE1 := Lib.hid (blk_below (blk_drew HE.out) hb1 (blk_lt HE.out))
             clear hb1 HB HE HX)
          | (go_at_call 72
             (with_reducible refine (HY.out _ HB1.out).mono ?_)
             rintro e w2 ⟨rfl, hb2⟩
             have HB2 := Lib.hid (HB1.out.trans (hb2.mono HB1.out.size))
             have HE2 := Lib.hid (blk_below HE1.out hb2 (blk_lt HE1.out))
             clear hb2 HB1 HE1 HY))
      go_wp2_with fail
      go_ret2
      exact ⟨by rw [HS.out, ← HT.out]; rfl, HB2.out⟩
    · rw [if_neg (fun h => h2 h.2)] at hS
      have e2 : ((ys.length : Int) == 0) = true := beq_iff_eq.2 (by omega)
      have HS := Lib.hid hS
      clear hS h1 h2
      go_enter Tryd.func45, Tryd.ntmps45
      go_wp2_with fail
      go_ret2
      exact ⟨by rw [HS.out]; rfl, HB.out⟩
  · rw [if_neg (fun h => h1 h.1)] at hS
    have e1 : ((xs.length : Int) == 0) = true := beq_iff_eq.2 (by omega)
    have HS := Lib.hid hS
    clear hS h1
    go_enter Tryd.func45, Tryd.ntmps45
    go_wp2_with fail
    go_ret2
    exact ⟨by rw [HS.out]; rfl, HB.out⟩

end Go.Proofs.YtajilipbnfpemaaDoor
