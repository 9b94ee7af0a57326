/- Walks: ShapeRanges. Conditions: the table of powers of ten reads as listed. -/
import Derived.Test.YtjjoendjgiiknaaDoorShapeRefRange
import Derived.Test.YtjjoendjgiiknaaDoorWithin
namespace Go.Proofs.YtjjoendjgiiknaaDoor
open Go.RowKit

/-- All ranges, in order. -/
def interR (zs : List Int) : Nat → List (Int × Int)
  | 0 => []
  | k + 1 => interR zs k ++ [(lo zs k, mid zs k), (mid zs k, lo zs (k + 1))]
theorem inter_len (zs : List Int) : ∀ n, (interR zs n).length = 2 * n
  | 0 => rfl
  | n + 1 => by simp only [interR, List.length_append, inter_len zs n]; simp; omega
theorem chain_app : ∀ {a m n : Int} {l r : List (Int × Int)}, Chain a l m → Chain m r n → Chain a (l ++ r) n
  | a, m, n, [], r, h1, h2 => by
    have : a = m := h1
    subst this
    exact h2
  | a, m, n, x :: l, r, h1, h2 => ⟨h1.1, h1.2.1, chain_app h1.2.2 h2⟩
theorem inter_chain {zs : List Int} (h : ShOk zs) : ∀ n, n < zs.length → Chain 0 (interR zs n) (lo zs n)
  | 0, _ => (lo_zero zs).symm
  | n + 1, hn => by
    have hm := mid_ge h hn
    exact chain_app (inter_chain h n (by omega)) ⟨rfl, by dsimp only; omega, rfl, by dsimp only; omega, rfl⟩
theorem flatR_app (l m : List (Int × Int)) : flatR (l ++ m) = flatR l ++ flatR m := by simp [flatR]

set_option maxRecDepth 100000 in
set_option maxHeartbeats 4000000 in
theorem shapeRanges_any (A : Option Addr) (cap : Nat) (zs : List Int) (k : Int) (w : World) (hp : Pow w.heap.size w) (hr : RdI w w.heap.size A zs) (hm : zs.length ≤ 9223372036854775807) (hcap : zs.length ≤ cap) :
    Calls Tryd.prog 4 #[.slice A zs.length cap, .int .i64 k] w fun e w' => e = .returned (.bool true) ∧ Below w.heap.size w w' := by
  have HA := Lib.hid (fun W (hb : Below w.heap.size w W) => alive08_any w.heap.size W (hp.on hb) hb.size)
  by_cases h40 : 40 < zs.length
  · have h40' : (40 : Int) < (zs.length : Int) := by omega
    clear h40
    go_enter Tryd.func4, Tryd.ntmps4
    go_wp2_with fail
    (with_reducible refine (HA.out _ (Below.refl _ _)).mono ?_)
    rintro e w2 ⟨rfl, hb2⟩
    go_wp2_with fail
    go_ret
    exact ⟨rfl, hb2⟩
  · have h40' : (zs.length : Int) ≤ 40 := by omega
    have HR := Lib.hid (refShape_any A cap zs w hr hm)
    by_cases h0 : shCode zs = 0
    · rw [h0] at HR
      have hok := shOk_of h0
      have HN := Lib.hid (fun W (hb : Below w.heap.size w W) => new_any A cap zs W ((hr.below hb).more hb.size) hcap hm)
      have HRW := Lib.hid (fun W (hb : Below w.heap.size w W) => refWeights_any A cap zs hok k W ((hr.below hb).more hb.size) hcap)
      have HRB := Lib.hid (fun W (hb : Below w.heap.size w W) => refBiases_any A cap zs hok k W ((hr.below hb).more hb.size) hcap)
      have HC := Lib.hid (fun W (hb : Below w.heap.size w W) => refCount_any A cap zs W ((hr.below hb).more hb.size) hok.2.1 (List.all_eq_true.2 fun z hz => okSz_iff.2 (hok.2.2.1 z hz)))
      have HSW := Lib.hid (fun (g : Nat) (x : Int) W (hS : IsShape W W.heap.size g zs) => weights_any g zs x W hS (by have := hok.1; have := hok.2.1; omega))
      have HSB := Lib.hid (fun (g : Nat) (x : Int) W (hS : IsShape W W.heap.size g zs) => biases_any g zs x W hS (by have := hok.1; have := hok.2.1; omega))
      have HOK := Lib.hid hok
      have H0 := Lib.hid h0
      have gS := guardS
      have nS := neqS
      have HWL := Lib.hid (show ∀ j : Nat, j + 1 < zs.length → wgt zs j = (lo zs j, mid zs j) from fun j hj => by
        unfold wgt
        rw [if_pos ⟨by omega, by omega⟩, Int.toNat_natCast])
      have HBL := Lib.hid (show ∀ j : Nat, j + 1 < zs.length → bia zs j = (mid zs j, lo zs (j + 1)) from fun j hj => by
        unfold bia
        rw [if_pos ⟨by omega, by omega⟩, Int.toNat_natCast])
      have HWK := Lib.hid (fun (g : Nat) W (hS : IsShape W W.heap.size g zs) => HSW.out g k W hS)
      have HBK := Lib.hid (fun (g : Nat) W (hS : IsShape W W.heap.size g zs) => HSB.out g k W hS)
      obtain ⟨pw, hpw⟩ : ∃ p, wgt zs k = p := ⟨_, rfl⟩
      obtain ⟨pb, hpb⟩ : ∃ p, bia zs k = p := ⟨_, rfl⟩
      rw [hpw] at HRW HWK
      rw [hpb] at HRB HBK
      obtain ⟨x1, x2⟩ := pw
      obtain ⟨y1, y2⟩ := pb
      dsimp only at HRW HWK HRB HBK
      obtain ⟨i0, hi, hz0, hz1, hz2⟩ := info_parts Tryd.infoR
      have HI := Lib.hid (And.intro hi (And.intro hz0 (And.intro hz1 hz2)))
      have h16 : (zs.length : Int) ≤ 16 := by have := hok.2.1; omega
      have h2 : (2 : Int) ≤ (zs.length : Int) := by have := hok.1; omega
      clear hpw hpb hr hp hm hcap h40 hok h0 hi hz0 hz1 hz2
      go_enter Tryd.func4, Tryd.ntmps4
      go_wp2_with fail
      (with_reducible refine HR.out.mono ?_)
      rintro e w1 ⟨rfl, n, rfl⟩
      have HB1 := Lib.hid (below_drewN (Below.refl w.heap.size w) n)
      go_wp2_with fail
      (with_reducible refine (HN.out _ HB1.out).mono ?_)
      intro e w2 ⟨hb2, hyes, _⟩
      obtain ⟨g, rfl, _, hS⟩ := hyes H0.out
      have HB2 := Lib.hid (HB1.out.trans hb2)
      have HS2 := Lib.hid hS
      clear hb2 hyes hS HN HR HB1
      go_wp2_with fail
      (with_reducible refine (HWK.out g w2 HS2.out).mono ?_)
      rintro e w3 ⟨rfl, hb⟩
      have HB3 := Lib.hid (HB2.out.trans (hb.mono HB2.out.size))
      have HS3 := Lib.hid (HS2.out.next hb)
      clear hb HB2 HS2 HWK
      go_wp2_with fail
      (with_reducible refine (HRW.out w3 HB3.out).mono ?_)
      rintro e w4 ⟨rfl, hb⟩
      have HB4 := Lib.hid (HB3.out.trans (hb.mono HB3.out.size))
      have HS4 := Lib.hid (HS3.out.next hb)
      clear hb HB3 HS3 HRW
      go_wp2_with fail
      (with_reducible refine (HBK.out g w4 HS4.out).mono ?_)
      rintro e w5 ⟨rfl, hb⟩
      have HB5 := Lib.hid (HB4.out.trans (hb.mono HB4.out.size))
      have HS5 := Lib.hid (HS4.out.next hb)
      clear hb HB4 HS4 HBK
      go_wp2_with fail
      (with_reducible refine (HRB.out w5 HB5.out).mono ?_)
      rintro e w6 ⟨rfl, hb⟩
      have HB6 := Lib.hid (HB5.out.trans (hb.mono HB5.out.size))
      have HS6 := Lib.hid (HS5.out.next hb)
      clear hb HB5 HS5 HRB
      go_wp2_with fail
      clear gS nS
      go_loopw [7, 42] (fun v i wr => ∃ j : Nat, j + 1 ≤ zs.length ∧ i = .int .i64 j ∧ Hid (wr.ownsRow w6.heap.size 35 2 v (2 * j) (flatR (interR zs j))) ∧ Hid (Below w6.heap.size w6 wr)) (fun _ i _ => zs.length - (intOf i).toNat)
      case atStart => exact ⟨0, by omega, rfl, Lib.hid (own_nil w6 _ _ 2), Lib.hid (Below.refl _ _)⟩
      case round =>
        obtain ⟨j, hj, rfl, HOj, HBj⟩ := hrel
        have HSj := Lib.hid (HS6.out.next HBj.out)
        by_cases hlt : j + 1 < zs.length
        · have HWj := Lib.hid (HSW.out g j wr HSj.out)
          have HBBj := Lib.hid (fun W (hS : IsShape W W.heap.size g zs) => HSB.out g j W hS)
          rw [HWL.out j hlt] at HWj
          rw [HBL.out j hlt] at HBBj
          have HX := Lib.hid (show flatR (interR zs (j + 1)) = flatR (interR zs j) ++ [.int .i64 (lo zs j), .int .i64 (mid zs j), .int .i64 (mid zs j), .int .i64 (lo zs (j + 1))] by
            simp only [interR, flatR_app]; rfl)
          dsimp only at HWj HBBj
          generalize lo zs (j + 1) = L1 at *
          generalize lo zs j = L at *
          generalize mid zs j = M at *
          have hj1 : (j : Int) < (zs.length : Int) - 1 := by omega
          go_wp2_with fail
          (with_reducible refine HWj.out.mono ?_)
          rintro e w7 ⟨rfl, hb⟩
          have HB7 := Lib.hid (HBj.out.trans (hb.mono HBj.out.size))
          have HS7 := Lib.hid (HSj.out.next hb)
          have HO7 := Lib.hid (own_below HOj.out hb)
          clear hb HBj HSj HOj HWj
          go_wp2_with fail
          (with_reducible refine (HBBj.out w7 HS7.out).mono ?_)
          rintro e w8 ⟨rfl, hb⟩
          have HB8 := Lib.hid (HB7.out.trans (hb.mono HB7.out.size))
          have HS8 := Lib.hid (HS7.out.next hb)
          have HO8 := Lib.hid (own_below HO7.out hb)
          clear hb HB7 HS7 HO7 HBBj
          have HN := Lib.hid (heap_alloc_new w8 (.cells #[.int .i64 L, .int .i64 M, .int .i64 M, .int .i64 L1] 35))
          have HB9 := Lib.hid (HB8.out.alloc HB8.out.size (.cells #[.int .i64 L, .int .i64 M, .int .i64 M, .int .i64 L1] 35))
          have HO9 := Lib.hid (HO8.out.alloc (.cells #[.int .i64 L, .int .i64 M, .int .i64 M, .int .i64 L1] 35))
          go_wp2_with (at_builtin; refine wpList_append_own _ rfl _ _ 38 rfl w6.heap.size 35 i0 (.agg #[.int .i64 0, .int .i64 0]) 2 16 Tryd.underlying38 HI.out.1 HI.out.2.1 HI.out.2.2.1 HI.out.2.2.2 rfl (by decide) _ _ _ rfl HO9.out ⟨w8.heap.size, 0, none⟩ 2 2 [.int .i64 L, .int .i64 M, .int .i64 M, .int .i64 L1] rfl rfl ?c1 ?c2 ?c3 ?c4 ?c5 ?_)
          case c1 =>
            intro j u hj
            rw [add_none, Nat.zero_add, blk_cell HN.out]
            simpa using hj
          case c2 => intro u hu; simp at hu; rcases hu with rfl | rfl | rfl | rfl <;> rfl
          case c3 => unfold maxLen; omega
          case c4 => omega
          case c5 => have := HB8.out.size; simp; omega
          intro v' w10 hown' hgrow _
          have HB10 := Lib.hid (below_own HB9.out (Nat.le_refl _) (Nat.le_refl _) HO9.out hgrow)
          have HO10 := Lib.hid hown'
          clear hown' hgrow HB8 HO8 HS8 HB9 HO9 HN
          go_wp2_with fail
          go_roundw
          case rel => exact ⟨j + 1, by omega, by go_num, Lib.hid (by rw [HX.out]; exact HO10.out), HB10⟩
          case measure => simp [intOf]; omega
        · have hge : (zs.length : Int) - 1 ≤ (j : Int) := by omega
          obtain ⟨Av, cv, rfl⟩ := own_slice HOj.out
          have hjn : j = zs.length - 1 := by omega
          have hCV := fun W (hb : Below wr.heap.size wr W) => covers_yes (cnt zs) Av cv (interR zs j) W (rd_of_own (own_below HOj.out hb)) (by rw [inter_len]; omega) (by
            have := inter_chain HOK.out j (by omega)
            rw [hjn, lo_last (by omega)] at this
            rw [hjn]
            exact this)
          rw [inter_len] at hCV
          have HCV := Lib.hid hCV
          have HBw := Lib.hid (HB6.out.trans (HBj.out.mono HB6.out.size))
          clear hCV hjn HBj HB6
          go_wp2_with fail
          (with_reducible refine (HA.out _ HBw.out).mono ?_)
          rintro e w7 ⟨rfl, hb⟩
          have HB7 := Lib.hid (HBw.out.trans (hb.mono HBw.out.size))
          have HS7 := Lib.hid (HSj.out.next hb)
          have HK7 := Lib.hid (count_any g zs _ w7 HS7.out)
          have HV7 := Lib.hid (HCV.out w7 hb)
          clear hb HBw HSj HCV
          go_wp2_with fail
          (with_reducible refine HK7.out.mono ?_)
          rintro e w8 ⟨rfl, rfl⟩
          go_wp2_with fail
          (with_reducible refine HV7.out.mono ?_)
          rintro e w8 ⟨rfl, hb⟩
          have HB8 := Lib.hid (HB7.out.trans (hb.mono HB7.out.size))
          have HS8 := Lib.hid (HS7.out.next hb)
          have HK8 := Lib.hid (count_any g zs _ w8 HS8.out)
          clear hb HB7 HS7 HK7 HV7
          go_wp2_with fail
          (with_reducible refine HK8.out.mono ?_)
          rintro e w9 ⟨rfl, rfl⟩
          go_wp2_with fail
          (with_reducible refine (HC.out _ HB8.out).mono ?_)
          rintro e w9 ⟨rfl, n9, rfl⟩
          go_wp2_with fail
          go_ret
          exact ⟨by simp, below_drewN HB8.out _⟩
    · obtain ⟨c, hc⟩ : ∃ c, shCode zs = c := ⟨_, rfl⟩
      rw [hc] at HR h0
      have hc0 : (c != 0) = true := by simpa using h0
      clear h0 hc hr hp hm hcap h40
      go_enter Tryd.func4, Tryd.ntmps4
      go_wp2_with fail
      (with_reducible refine HR.out.mono ?_)
      rintro e w1 ⟨rfl, n, rfl⟩
      go_wp2_with fail
      (with_reducible refine (HA.out _ (below_drewN (Below.refl _ _) n)).mono ?_)
      rintro e w2 ⟨rfl, hb2⟩
      have HB2 := Lib.hid ((below_drewN (Below.refl w.heap.size w) n).trans hb2)
      clear hb2
      go_wp2_with fail
      go_ret
      exact ⟨rfl, HB2.out⟩

end Go.Proofs.YtjjoendjgiiknaaDoor
