/- Walks: ShapeNil. Conditions: the table of powers of ten, the two sentinels and the library's bound on a search read as listed. -/
import Derived.Test.YtjjoendjgiiknaaDoorShapeIndexNil
import Derived.Test.YtjjoendjgiiknaaDoorShapeMakes
namespace Go.Proofs.YtjjoendjgiiknaaDoor
open Go.RowKit

theorem IsShape.more {w : World} {B B' g : Nat} {zs : List Int} (h : IsShape w B g zs) (hB : B ≤ B') : IsShape w B' g zs := by
  obtain ⟨hg, As, Aw, Ab, cs, cw, cb, h1, l1, l2, l3, h2, h3, h4⟩ := h
  exact ⟨by omega, As, Aw, Ab, cs, cw, cb, h1, l1, l2, l3, RdI.more h2 hB, h3.more hB, h4.more hB⟩

set_option maxRecDepth 100000 in
set_option maxHeartbeats 4000000 in
theorem shapeNil_any (A : Option Addr) (cap : Nat) (zs : List Int) (i : Int) (nm : ByteArray) (w : World) (hp : Pow w.heap.size w) (he : Errs w.heap.size w) (hx : MaxL w.heap.size w) (hr : RdI w w.heap.size A zs) (hm : zs.length ≤ 9223372036854775807) (hcap : zs.length ≤ cap) (hnm : nm.size ≤ 9223372036854775807) :
    Calls Tryd.prog 7 #[.slice A zs.length cap, .int .i64 i, .string nm] w fun e w' => e = .returned (.bool true) ∧ Below w.heap.size w w' := by
  have HA := Lib.hid (fun W (hb : Below w.heap.size w W) => alive08_any w.heap.size W (hp.on hb) hb.size)
  have HF := Lib.hid (refFew_any A cap zs w hr hm)
  obtain ⟨b, hb⟩ : ∃ b, fewS zs = b := ⟨_, rfl⟩
  rw [hb] at HF
  clear hb
  cases b with
  | false =>
    clear hr hp hm hcap hnm he hx
    go_enter Tryd.func7, Tryd.ntmps7
    go_wp2_with fail
    (with_reducible refine HF.out.mono ?_)
    rintro e w1 ⟨rfl, n, rfl⟩
    go_wp2_with fail
    (with_reducible refine (HA.out _ (below_drewN (Below.refl _ _) n)).mono ?_)
    rintro e w2 ⟨rfl, hb2⟩
    have HB2 := Lib.hid ((below_drewN (Below.refl w.heap.size w) n).trans hb2)
    clear hb2
    go_wp2_with fail
    go_ret
    exact ⟨rfl, HB2.out⟩
  | true =>
    by_cases h200 : nm.size ≤ 200
    · have HN := Lib.hid (fun W (hb : Below w.heap.size w W) => newF_any A cap zs W ((hr.below hb).more hb.size) hcap hm)
      have HR := Lib.hid (fun W (hb : Below w.heap.size w W) => refShape_any A cap zs W ((hr.below hb).more hb.size) hm)
      have HRR := Lib.hid (fun W (hb : Below w.heap.size w W) => (hr.below hb).more hb.size)
      have HPN := Lib.hid (fun W => place_nil i W)
      have HIN := Lib.hid (fun W (hb : Below w.heap.size w W) => index_nil nm (by omega) w.heap.size W (he.on hb) (hx.on hb) hb.size)
      have HZN := Lib.hid (fun W => sizes_nil W)
      have HLN := Lib.hid (fun W => links_nil W)
      have HCN := Lib.hid (fun W => count_nil W)
      have HWN := Lib.hid (fun W => weights_nil i W)
      have HBN := Lib.hid (fun W => biases_nil i W)
      have HMN := Lib.hid (fun W => name_nil i W)
      have HEQ := Lib.hid (And.intro neqR guardR)
      have h200' : (nm.size : Int) ≤ 200 := by omega
      have HZM := Lib.hid hm
      clear hr hp hm hcap hnm he hx h200
      go_enter Tryd.func7, Tryd.ntmps7
      go_wp2_with fail
      (with_reducible refine HF.out.mono ?_)
      rintro e w1 ⟨rfl, m, rfl⟩
      have HB0 := Lib.hid (below_drewN (Below.refl w.heap.size w) m)
      obtain ⟨wa, hwa⟩ : ∃ W, w.drewN m = W := ⟨_, rfl⟩
      rw [hwa] at HB0 ⊢
      clear hwa HF
      go_wp2_with fail
      (with_reducible refine (HPN.out _).mono ?_)
      rintro e w1 ⟨rfl, rfl⟩
      go_wp2_with fail
      (with_reducible refine (HIN.out _ HB0.out).mono ?_)
      rintro e w1 ⟨rfl, hb⟩
      have HB1 := Lib.hid (HB0.out.trans (hb.mono HB0.out.size))
      clear hb HB0
      go_wp2_with fail
      (with_reducible refine (HZN.out _).mono ?_)
      rintro e w2 ⟨rfl, rfl⟩
      go_wp2_with fail
      (with_reducible refine (HLN.out _).mono ?_)
      rintro e w2 ⟨rfl, rfl⟩
      go_wp2_with fail
      (with_reducible refine (HCN.out _).mono ?_)
      rintro e w2 ⟨rfl, rfl⟩
      go_wp2_with fail
      (with_reducible refine (HWN.out _).mono ?_)
      rintro e w2 ⟨rfl, hb⟩
      have HB2 := Lib.hid (HB1.out.trans (hb.mono HB1.out.size))
      clear hb HB1
      have nR := HEQ.out.1
      have gR := HEQ.out.2
      go_wp2_with fail
      clear nR gR
      (with_reducible refine (HBN.out _).mono ?_)
      rintro e w3 ⟨rfl, hb⟩
      have HB3 := Lib.hid (HB2.out.trans (hb.mono HB2.out.size))
      clear hb HB2
      have nR := HEQ.out.1
      have gR := HEQ.out.2
      go_wp2_with fail
      clear nR gR
      (with_reducible refine (HMN.out _).mono ?_)
      rintro e w4 ⟨rfl, rfl⟩
      go_wp2_with fail
      (with_reducible refine (HN.out _ HB3.out).mono ?_)
      intro e w4 ⟨hb, hyes, hno⟩
      have HB4 := Lib.hid (HB3.out.trans (hb.mono HB3.out.size))
      clear hb
      by_cases h0 : shCode zs = 0
      · obtain ⟨g, rfl, hS⟩ := hyes h0
        have hok := shOk_of h0
        have HSF := Lib.hid hS
        have HLL := Lib.hid hok
        have HS4 := Lib.hid (show IsShape w4 w4.heap.size g zs from hS.shape)
        have HSZ := Lib.hid (sizes_any g zs w4 HS4.out (by have := hok.2.1; omega))
        rw [h0] at HR
        clear hyes hno hS h0 hok HN HB3
        go_wp2_with fail
        (with_reducible refine HSZ.out.mono ?_)
        rintro e w5 ⟨v5, rfl, ho5, hb⟩
        obtain ⟨A0, cap0, rfl⟩ := own_slice ho5
        have HB5 := Lib.hid (HB4.out.trans (hb.mono HB4.out.size))
        have HS5 := Lib.hid (HS4.out.next hb)
        have HOI := Lib.hid (ownI_of ho5)
        have HLT := Lib.hid hb.size
        have HS5' := Lib.hid (show IsShape w5 w4.heap.size g zs from HS4.out.below hb)
        have hzl : zs.length ≤ 1000 := by have := HLL.out.2.1; omega
        clear hb ho5 HSZ HS4
        go_wp2_with fail
        go_loopw [106] (fun i wr => ∃ k : Nat, k ≤ zs.length ∧ i = .int .i64 k ∧ Hid (BumpI w4.heap.size w5.heap.size A0 zs.length w5 wr)) (fun i _ => zs.length - (intOf i).toNat)
        case atStart => exact ⟨0, Nat.zero_le _, rfl, Lib.hid ⟨Within.refl _ _ _, HOI.out⟩⟩
        case round =>
          obtain ⟨k, hk, rfl, HBk⟩ := hrel
          by_cases hlt : k < zs.length
          · obtain ⟨b, off, rfl, hlo, hbg, hhi, hcell⟩ := HBk.out.2 (by omega)
            obtain ⟨⟨z, hz⟩, hfz⟩ := hcell k hlt
            have hj0 : (0 : Int) ≤ (k : Int) := by omega
            have hj1 : (k : Int) < (zs.length : Int) := by omega
            clear hcell HOI
            go_wp2_with fail
            go_roundw
            case rel => exact ⟨k + 1, by omega, by go_num, Lib.hid ⟨HBk.out.1.setCell ⟨hlo, hhi⟩ _, HBk.out.2.set b _ _⟩⟩
            case measure => simp [intOf]; omega
          · have hge : zs.length ≤ k := by omega
            have HB6 := Lib.hid (HB5.out.trans (HBk.out.1.below HB4.out.size))
            have HS6 := Lib.hid (show IsShape wr wr.heap.size g zs from (HS5'.out.below (HBk.out.1.below (Nat.le_refl _))).more (by rw [HBk.out.1.size]; exact HLT.out))
            have HZL := Lib.hid hzl
            clear HBk HOI HB5 HS5 HS5' hzl
            go_wp2_with fail
            (with_reducible refine (HA.out _ HB6.out).mono ?_)
            rintro e w7 ⟨rfl, hb⟩
            have HB7 := Lib.hid (HB6.out.trans (hb.mono HB6.out.size))
            have HS7 := Lib.hid (HS6.out.next hb)
            clear hb HB6 HS6
            go_wp2_with fail
            (with_reducible refine (HR.out _ HB7.out).mono ?_)
            rintro e w8 ⟨rfl, n8, rfl⟩
            obtain ⟨w8, hw8⟩ : ∃ W, w7.drewN n8 = W := ⟨_, rfl⟩
            rw [hw8]
            have HB8 := Lib.hid (show Below w.heap.size w w8 from hw8 ▸ below_drewN HB7.out n8)
            have HS8 := Lib.hid (show IsShape w8 w8.heap.size g zs from hw8 ▸ HS7.out)
            clear hw8 HB7 HS7
            have HSZ := Lib.hid (sizes_any g zs w8 HS8.out (by have := HZL.out; omega))
            go_wp2_with fail
            (with_reducible refine HSZ.out.mono ?_)
            rintro e w9 ⟨v9, rfl, ho9, hb⟩
            obtain ⟨A9, cap9, rfl⟩ := own_slice ho9
            have HB9 := Lib.hid (HB8.out.trans (hb.mono HB8.out.size))
            have HE := Lib.hid (equalInt_any A9 A cap9 cap zs zs w9 (rd_of_own ho9) (HRR.out _ HB9.out) (by have := HZL.out; omega) (by have := HZL.out; omega))
            rw [decide_eq_true (rfl : zs = zs)] at HE
            clear hb ho9 HB8 HS8 HSZ
            go_wp2_with fail
            (with_reducible refine HE.out.mono ?_)
            rintro e w10 ⟨rfl, hb⟩
            have HB10 := Lib.hid (HB9.out.trans (hb.mono HB9.out.size))
            clear hb HB9 HE
            go_wp2_with fail
            go_ret
            exact ⟨rfl, HB10.out⟩
      · obtain rfl := hno h0
        obtain ⟨c, hc⟩ : ∃ c, shCode zs = c := ⟨_, rfl⟩
        rw [hc] at HR h0 ⊢
        have hc0 : (c != 0) = true := by simpa using h0
        clear hyes hno h0 hc HN HB3
        go_wp2_with fail
        (with_reducible refine (HZN.out _).mono ?_)
        rintro e w5 ⟨rfl, rfl⟩
        go_wp2_with fail
        go_loopw [106] (fun i wr => i = .int .i64 0 ∧ wr = w4) (fun _ _ => 0)
        case atStart => exact ⟨rfl, rfl⟩
        case round =>
          obtain ⟨rfl, rfl⟩ := hrel
          go_wp2_with fail
          (with_reducible refine (HA.out _ HB4.out).mono ?_)
          rintro e w7 ⟨rfl, hb⟩
          have HB7 := Lib.hid (HB4.out.trans (hb.mono HB4.out.size))
          clear hb HB4
          go_wp2_with fail
          (with_reducible refine (HR.out _ HB7.out).mono ?_)
          rintro e w8 ⟨rfl, n8, rfl⟩
          have HB8 := Lib.hid (below_drewN HB7.out n8)
          go_wp2_with fail
          go_ret
          exact ⟨rfl, HB8.out⟩
    · have h200' : (200 : Int) < (nm.size : Int) := by omega
      clear hr hp hm hcap he hx h200
      go_enter Tryd.func7, Tryd.ntmps7
      go_wp2_with fail
      (with_reducible refine HF.out.mono ?_)
      rintro e w1 ⟨rfl, n, rfl⟩
      go_wp2_with fail
      (with_reducible refine (HA.out _ (below_drewN (Below.refl _ _) n)).mono ?_)
      rintro e w2 ⟨rfl, hb2⟩
      have HB2 := Lib.hid ((below_drewN (Below.refl w.heap.size w) n).trans hb2)
      clear hb2
      go_wp2_with fail
      go_ret
      exact ⟨rfl, HB2.out⟩

end Go.Proofs.YtjjoendjgiiknaaDoor
