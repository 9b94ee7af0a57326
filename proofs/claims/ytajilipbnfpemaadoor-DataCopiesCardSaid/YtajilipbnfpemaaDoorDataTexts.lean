/- Walks: DataTexts. Conditions: the table of powers of ten, the two sentinels and the library's bound on a search read as listed. -/
import Derived.Test.YtajilipbnfpemaaDoorDataParse
import Derived.Test.YtajilipbnfpemaaDoorDataSame
import Derived.Test.YtajilipbnfpemaaDoorDataCheck
import Derived.Test.YtajilipbnfpemaaDoorDecLen
namespace Go.Proofs.YtajilipbnfpemaaDoor
open Go.RowKit

theorem exFew_one {e : Ex} (h : exFew [e] = true) : e.xs.length ≤ 600 ∧ e.ys.length ≤ 600 := by
  simp [exFew, exSum] at h
  omega

/-- One example in a row of its own. -/
theorem rdE_one {w : World} {ex : Ex} (h : RdX w w.heap.size ex) : RdE (w.alloc (.cells #[.slice ex.ax ex.xs.length ex.cx, .slice ex.ay ex.ys.length ex.cy] 46)) (w.heap.size + 1) (some ⟨w.heap.size, 0, none⟩) [ex] := by
  refine ⟨fun _ => ⟨w.heap.size, 0, rfl, by omega, fun j u hu => ?_⟩, fun e he => ?_⟩
  · rw [blk_cell (heap_alloc_new w _)]
    simpa [exCells, Ex.cells, Nat.zero_add] using hu
  · simp at he
    subst he
    exact (h.below ((Below.refl _ _).alloc (Nat.le_refl _) _)).more (by omega)

theorem words_short {q : Nat} (hq : q ≤ 62) {zs : List Int} (hz : ∀ x ∈ zs, In64 x) : ∀ y ∈ txtL zs q, y.length ≤ 1000 := fun y hy => by
  obtain ⟨x, hx, rfl⟩ := List.mem_map.1 hy
  have := decText_len x q hq (hz x hx)
  omega

theorem exText_len {q : Nat} (hq : q ≤ 62) {xs ys : List Int} (hx : ∀ x ∈ xs, In64 x) (hy : ∀ y ∈ ys, In64 y) (l1 : xs.length ≤ 600) (l2 : ys.length ≤ 600) : (rowText xs q).length ≤ 60600 ∧ (rowText ys q).length ≤ 60600 ∧ (exText xs ys q).length ≤ 130000 := by
  have h1 := row_len q hq xs hx
  have h2 := row_len q hq ys hy
  refine ⟨by omega, by omega, ?_⟩
  unfold exText
  simp only [List.length_append, List.length_cons, List.length_nil]
  omega

set_option maxRecDepth 100000 in
set_option maxHeartbeats 4000000 in
theorem dataTexts_any (ex : Ex) (q : Int) (w : World) (hr : RdX w w.heap.size ex) (hz : (∀ x ∈ ex.xs, In64 x) ∧ ∀ y ∈ ex.ys, In64 y) (hp : Pow w.heap.size w) (he : Errs w.heap.size w) (hm : MaxL w.heap.size w) :
    Calls Tryd.prog 12 #[ex.val, .int .i64 q] w fun e w' => e = .returned (.bool true) ∧ Below w.heap.size w w' := by
  have HA := Lib.hid (fun W (hb : Below w.heap.size w W) => alive10_any w.heap.size W (hp.on hb) hb.size)
  have hb0 := (Below.refl w.heap.size w).alloc (Nat.le_refl _) (.cells #[.slice ex.ax ex.xs.length ex.cx, .slice ex.ay ex.ys.length ex.cy] 46)
  have hb1 := hb0.alloc hb0.size (.cells #[.slice ex.ax ex.xs.length ex.cx, .slice ex.ay ex.ys.length ex.cy] 46)
  have hE := rdE_one ((hr.below hb0).more hb0.size)
  have F := dataFew_any (some ⟨(w.alloc (.cells #[.slice ex.ax ex.xs.length ex.cx, .slice ex.ay ex.ys.length ex.cy] 46)).heap.size, 0, none⟩) 1 [ex] ((w.alloc (.cells #[.slice ex.ax ex.xs.length ex.cx, .slice ex.ay ex.ys.length ex.cy] 46)).alloc (.cells #[.slice ex.ax ex.xs.length ex.cx, .slice ex.ay ex.ys.length ex.cy] 46)) (by rw [World.size_alloc (w.alloc _)]; exact hE) (by simp)
  have HX := Lib.hid (blk_alloc (heap_alloc_new w (.cells #[.slice ex.ax ex.xs.length ex.cx, .slice ex.ay ex.ys.length ex.cy] 46)) (.cells #[.slice ex.ax ex.xs.length ex.cx, .slice ex.ay ex.ys.length ex.cy] 46))
  have HB := Lib.hid hb1
  clear hb0 hb1 hE
  have RX := fun W (hb : Below w.heap.size w W) => (hr.below hb).more hb.size
  have sz : ∀ l : List UInt8, (⟨l.toArray⟩ : ByteArray).size = l.length := fun l => by simp [ByteArray.size]
  cases hf : exFew [ex]
  · rw [hf] at F
    have HF := Lib.hid F
    clear F hf hp hr hz he hm RX sz
    obtain ⟨ax, xs, cx, ay, ys, cy⟩ := ex
    unfold Ex.val
    dsimp only at HX HB HF ⊢
    simp only [World.size_alloc, List.length_cons, List.length_nil, Nat.zero_add] at HF
    go_enter Tryd.func12, Tryd.ntmps12
    go_wp2_with fail
    (with_reducible refine HF.out.mono ?_)
    rintro e w1 ⟨rfl, n, rfl⟩
    go_wp2_with fail
    (with_reducible refine (HA.out _ (below_drewN HB.out n)).mono ?_)
    rintro e w2 ⟨rfl, hb2⟩
    have HB2 := Lib.hid ((below_drewN HB.out n).trans (hb2.mono HB.out.size))
    clear hb2
    go_wp2_with fail
    go_ret
    exact ⟨rfl, HB2.out⟩
  · rw [hf] at F
    have hle := exFew_one hf
    have hl1 : ex.xs.length ≤ 100000 ∧ ex.ys.length ≤ 100000 := by omega
    have HF := Lib.hid F
    clear F hf
    by_cases hyes : (0 ≤ q ∧ q ≤ 62) ∧ 0 < ex.xs.length ∧ 0 < ex.ys.length
    · obtain ⟨hq, hn1, hn2⟩ := hyes
      obtain ⟨n, rfl⟩ := Int.eq_ofNat_of_zero_le hq.1
      have hq' : n ≤ 62 := by omega
      have hlen := exText_len hq' hz.1 hz.2 hle.1 hle.2
      have TX := fun W (hb : Below w.heap.size w W) => dataText_yes ex n hq' hz hl1 (by omega) w.heap.size W (hp.on hb) hb.size (RX W hb)
      have RT := fun W (hb : Below w.heap.size w W) => refText10_yes ex n hq' hz hl1 W (RX W hb)
      have hS : exTextS ex.xs ex.ys n = (exText ex.xs ex.ys n, true) := by unfold exTextS; rw [if_pos ⟨hn1, hn2⟩]
      rw [hS] at TX RT
      dsimp only at TX RT
      have ne1 : ex.xs ≠ [] := fun e => by rw [e] at hn1; exact absurd hn1 (by simp)
      have ne2 : ex.ys ≠ [] := fun e => by rw [e] at hn2; exact absurd hn2 (by simp)
      have hc := cut_hit (x := rowText ex.xs n) (y := rowText ex.ys n) (row_no62 ex.xs n)
      have PA := fun W (hb : Below w.heap.size w W) => dataParse_any ⟨(exText ex.xs ex.ys n).toArray⟩ n w.heap.size W (by rw [sz]; omega)
        (by
          show ∀ y ∈ cutAt 32 (Lib.cut (exText ex.xs ex.ys n) [32, 62, 32]).1, y.length ≤ 1000
          unfold exText
          rw [hc, cutAt_row n ne1]
          exact words_short hq' hz.1)
        (by
          show ∀ y ∈ cutAt 32 (Lib.cut (exText ex.xs ex.ys n) [32, 62, 32]).2.1, y.length ≤ 1000
          unfold exText
          rw [hc, cutAt_row n ne2]
          exact words_short hq' hz.2)
        (by
          show (cutAt 32 (Lib.cut (exText ex.xs ex.ys n) [32, 62, 32]).1).length ≤ 1000000
          unfold exText
          rw [hc, cutAt_row n ne1]
          simp only [txtL, List.length_map]
          omega)
        (by
          show (cutAt 32 (Lib.cut (exText ex.xs ex.ys n) [32, 62, 32]).2.1).length ≤ 1000000
          unfold exText
          rw [hc, cutAt_row n ne2]
          simp only [txtL, List.length_map]
          omega)
        (by
          show (Lib.cut (exText ex.xs ex.ys n) [32, 62, 32]).1.length ≤ 500000
          unfold exText
          rw [hc]
          exact Nat.le_trans hlen.1 (by decide))
        (by
          show (Lib.cut (exText ex.xs ex.ys n) [32, 62, 32]).2.1.length ≤ 500000
          unfold exText
          rw [hc]
          exact Nat.le_trans hlen.2.1 (by decide))
        (hp.on hb) (he.on hb) (hm.on hb) hb.size
      have hex : exS (exText ex.xs ex.ys n) n = ((ex.xs, ex.ys), true) := exS_yes hq' ⟨ne1, ne2, hz.1, hz.2⟩ rfl
      unfold GivesEx at PA
      have e1 : (⟨(exText ex.xs ex.ys n).toArray⟩ : ByteArray).data.toList = exText ex.xs ex.ys n := rfl
      rw [e1, hex] at PA
      have HSM := Lib.hid (fun (ey : Ex) W (hb : Below w.heap.size w W) (hY : RdX W W.heap.size ey) => sameEx_any ey ex W hY (RX W hb))
      clear hp hr hz he hm RX hlen hc hex e1 hS hle hl1 hn1 hn2 ne1 ne2 sz hq
      obtain ⟨S, hSS⟩ : ∃ S : ByteArray, ⟨(exText ex.xs ex.ys n).toArray⟩ = S := ⟨_, rfl⟩
      rw [hSS] at TX RT PA
      clear hSS
      obtain ⟨ax, xs, cx, ay, ys, cy⟩ := ex
      unfold Ex.val at TX RT PA HSM ⊢
      dsimp only at HX HB HF TX RT PA HSM ⊢
      simp only [World.size_alloc, List.length_cons, List.length_nil, Nat.zero_add] at HF
      have HTx := Lib.hid TX
      have HRt := Lib.hid RT
      have HPa := Lib.hid PA
      clear TX RT PA
      go_enter Tryd.func12, Tryd.ntmps12
      go_wp2_with fail
      (with_reducible refine HF.out.mono ?_)
      rintro e w1 ⟨rfl, m, rfl⟩
      have HB1 := Lib.hid (below_drewN HB.out m)
      have HX1 := Lib.hid (blk_drewN HX.out m)
      clear HB HX HF
      have c0 := blk_cell HX1.out 0
      have c1 := blk_cell HX1.out 1
      go_wp2_with fail
      (with_reducible refine (HTx.out _ HB1.out).mono ?_)
      rintro e w2 ⟨rfl, hb2⟩
      have HB2 := Lib.hid (HB1.out.trans (hb2.mono HB1.out.size))
      have HX2 := Lib.hid (blk_below HX1.out hb2 (blk_lt HX1.out))
      clear hb2 HB1 HX1 HTx c0 c1
      have c0 := blk_cell HX2.out 0
      have c1 := blk_cell HX2.out 1
      go_wp2_with fail
      (with_reducible refine (HRt.out _ HB2.out).mono ?_)
      rintro e w3 ⟨rfl, hb3⟩
      have HB3 := Lib.hid (HB2.out.trans (hb3.mono HB2.out.size))
      have HX3 := Lib.hid (blk_below HX2.out hb3 (blk_lt HX2.out))
      clear hb3 HB2 HX2 HRt c0 c1
      go_wp2_with fail
      (with_reducible refine (HPa.out _ HB3.out).mono ?_)
      rintro e w4 ⟨hres, hb4⟩
      rcases hres with ⟨_, ey, rfl, hx, hy, hY⟩ | ⟨habs, _⟩
      · obtain ⟨ux, us, vx, uy, vs, vy⟩ := ey
        dsimp only at hx hy
        subst hx hy
        dsimp only
        have HB4 := Lib.hid ((HB3.out.trans (hb4.mono HB3.out.size)).alloc (Nat.le_trans HB3.out.size hb4.size) (.cells #[.slice ux us.length vx, .slice uy vs.length vy] 46))
        have HX4 := Lib.hid (blk_alloc (blk_below HX3.out hb4 (blk_lt HX3.out)) (.cells #[.slice ux us.length vx, .slice uy vs.length vy] 46))
        have HZ4 := Lib.hid (heap_alloc_new w4 (.cells #[.slice ux us.length vx, .slice uy vs.length vy] 46))
        have hy4 := (Below.refl w4.heap.size w4).alloc (Nat.le_refl _) (.cells #[.slice ux us.length vx, .slice uy vs.length vy] 46)
        have HY4 := Lib.hid ((hY.below hy4).more hy4.size)
        clear hb4 HB3 HX3 HPa hY hy4
        go_wp2_with fail
        (with_reducible refine (HA.out _ HB4.out).mono ?_)
        rintro e w5 ⟨rfl, hb5⟩
        have HB5 := Lib.hid (HB4.out.trans (hb5.mono HB4.out.size))
        have HX5 := Lib.hid (blk_below HX4.out hb5 (blk_lt HX4.out))
        have HZ5 := Lib.hid (blk_below HZ4.out hb5 (blk_lt HZ4.out))
        have HSM5 := Lib.hid (HSM.out ⟨ux, us, vx, uy, vs, vy⟩ w5 HB5.out ((HY4.out.below hb5).more hb5.size))
        have hsm : sameEx ⟨ux, us, vx, uy, vs, vy⟩ ⟨ax, us, cx, ay, vs, cy⟩ = true := by simp [sameEx]
        dsimp only at HSM5
        rw [hsm] at HSM5
        clear hb5 HB4 HX4 HZ4 HY4 HA HSM hsm
        have c0 := blk_cell HX5.out 0
        have c1 := blk_cell HX5.out 1
        have d0 := blk_cell HZ5.out 0
        have d1 := blk_cell HZ5.out 1
        go_wp2_with fail
        (with_reducible refine HSM5.out.mono ?_)
        rintro e w6 ⟨rfl, hb6⟩
        have HB6 := Lib.hid (HB5.out.trans (hb6.mono HB5.out.size))
        clear hb6 HB5
        go_wp2_with fail
        go_ret
        exact ⟨by simp, HB6.out⟩
      · cases habs
    · have TX : ∀ W, Below w.heap.size w W → Calls Tryd.prog 36 #[ex.val, .int .i64 q] W fun e w' => e = .returned (.tuple #[.string ⟨#[]⟩, .bool false]) ∧ Below W.heap.size W w' := fun W hb => by
        by_cases hq : 0 ≤ q ∧ q ≤ 62
        · obtain ⟨n, rfl⟩ := Int.eq_ofNat_of_zero_le hq.1
          have hq' : n ≤ 62 := by omega
          have hlen := exText_len hq' hz.1 hz.2 hle.1 hle.2
          have := dataText_yes ex n hq' hz hl1 (by omega) w.heap.size W (hp.on hb) hb.size (RX W hb)
          rw [show exTextS ex.xs ex.ys n = ([], false) by unfold exTextS; rw [if_neg (fun h => hyes ⟨hq, h⟩)]] at this
          exact this
        · exact dataText_no ex q hq hl1 W (RX W hb)
      have RT : ∀ W, Below w.heap.size w W → Calls Tryd.prog 45 #[ex.val, .int .i64 q] W fun e w' => e = .returned (.tuple #[.string ⟨#[]⟩, .bool false]) ∧ Below W.heap.size W w' := fun W hb => by
        by_cases hq : 0 ≤ q ∧ q ≤ 62
        · obtain ⟨n, rfl⟩ := Int.eq_ofNat_of_zero_le hq.1
          have hq' : n ≤ 62 := by omega
          have := refText10_yes ex n hq' hz hl1 W (RX W hb)
          rw [show exTextS ex.xs ex.ys n = ([], false) by unfold exTextS; rw [if_neg (fun h => hyes ⟨hq, h⟩)]] at this
          exact this
        · exact refText10_no ex q hq W
      have PA := fun W (hb : Below w.heap.size w W) => dataParse_any ⟨#[]⟩ q w.heap.size W (by decide) (by decide) (by decide) (by decide) (by decide) (by decide) (by decide) (hp.on hb) (he.on hb) (hm.on hb) hb.size
      have hex : exS [] q = (([], []), false) := by
        by_cases hq : 0 ≤ q ∧ q ≤ 62
        · obtain ⟨n, rfl⟩ := Int.eq_ofNat_of_zero_le hq.1
          exact exS_no fun xs ys _ e => by simp [exText] at e
        · exact exS_out hq
      unfold GivesEx at PA
      have e1 : (⟨#[]⟩ : ByteArray).data.toList = [] := rfl
      rw [e1, hex] at PA
      clear hp hr hz he hm RX hex e1 hle hl1 sz hyes
      obtain ⟨S, hSS⟩ : ∃ S : ByteArray, ⟨#[]⟩ = S := ⟨_, rfl⟩
      rw [hSS] at TX RT PA
      clear hSS
      obtain ⟨ax, xs, cx, ay, ys, cy⟩ := ex
      unfold Ex.val at TX RT PA ⊢
      dsimp only at HX HB HF TX RT PA ⊢
      simp only [World.size_alloc, List.length_cons, List.length_nil, Nat.zero_add] at HF
      have HTx := Lib.hid TX
      have HRt := Lib.hid RT
      have HPa := Lib.hid PA
      clear TX RT PA
      go_enter Tryd.func12, Tryd.ntmps12
      go_wp2_with fail
      (with_reducible refine HF.out.mono ?_)
      rintro e w1 ⟨rfl, m, rfl⟩
      have HB1 := Lib.hid (below_drewN HB.out m)
      have HX1 := Lib.hid (blk_drewN HX.out m)
      clear HB HX HF
      have c0 := blk_cell HX1.out 0
      have c1 := blk_cell HX1.out 1
      go_wp2_with fail
      (with_reducible refine (HTx.out _ HB1.out).mono ?_)
      rintro e w2 ⟨rfl, hb2⟩
      have HB2 := Lib.hid (HB1.out.trans (hb2.mono HB1.out.size))
      have HX2 := Lib.hid (blk_below HX1.out hb2 (blk_lt HX1.out))
      clear hb2 HB1 HX1 HTx c0 c1
      have c0 := blk_cell HX2.out 0
      have c1 := blk_cell HX2.out 1
      go_wp2_with fail
      (with_reducible refine (HRt.out _ HB2.out).mono ?_)
      rintro e w3 ⟨rfl, hb3⟩
      have HB3 := Lib.hid (HB2.out.trans (hb3.mono HB2.out.size))
      have HX3 := Lib.hid (blk_below HX2.out hb3 (blk_lt HX2.out))
      clear hb3 HB2 HX2 HRt c0 c1
      go_wp2_with fail
      (with_reducible refine (HPa.out _ HB3.out).mono ?_)
      rintro e w4 ⟨hres, hb4⟩
      rcases hres with ⟨habs, _⟩ | ⟨_, rfl⟩
      · cases habs
      · have HB4 := Lib.hid ((HB3.out.trans (hb4.mono HB3.out.size)).alloc (Nat.le_trans HB3.out.size hb4.size) (.cells #[.slice none 0 0, .slice none 0 0] 46))
        clear hb4 HB3 HX3 HPa
        go_wp2_with fail
        (with_reducible refine (HA.out _ HB4.out).mono ?_)
        rintro e w5 ⟨rfl, hb5⟩
        have HB5 := Lib.hid (HB4.out.trans (hb5.mono HB4.out.size))
        clear hb5 HB4 HA
        go_wp2_with fail
        go_ret
        exact ⟨by simp, HB5.out⟩

end Go.Proofs.YtajilipbnfpemaaDoor
