/- Walks: ShapeMakes. Conditions: the table of powers of ten reads as listed. -/
import Derived.Test.YtjjoendjgiiknaaDoorShapeBits
import Derived.Test.YtjjoendjgiiknaaDoorWithin
namespace Go.Proofs.YtjjoendjgiiknaaDoor
open Go.RowKit

theorem own_empty (w : World) (e : TypeId) : (w.alloc (.cells #[] e)).ownsRow w.heap.size e 1 (.slice (some ⟨w.heap.size, 0, none⟩) 0 0) 0 [] :=
  ⟨by simp, .inr ⟨w.heap.size, 0, #[], rfl, Nat.le_refl _, heap_alloc_new w _, Nat.le_refl _, by simp [maxLen], by simp, by simp⟩⟩
theorem infoInt : (Tryd.prog.info? 3).map (fun i => (i.zero, i.size, i.bytes)) = some (some (.int .i64 0), 1, 8) := by kernel_rfl

theorem ownI_of {w : World} {base e n cap : Nat} {A : Option Addr} {zs : List Int} (h : w.ownsRow base e 1 (.slice A n cap) n (zs.map (Value.int .i64))) : OwnN w base w.heap.size w.heap.size A n := fun h0 => by
  rcases h.2 with ⟨hv, hz⟩ | ⟨g', c, cur, hv, hb, hh, _, _, _, ht⟩
  · omega
  · injection hv with hA _ _
    subst hA
    have hl := blk_lt hh
    refine ⟨g', 0, rfl, hb, by omega, hl, fun j hj => ⟨?_, blk_frozen hh _⟩⟩
    have hl' : (zs.map (Value.int .i64)).length = n := by have := h.1; simpa using this
    have hz : j < zs.length := by simpa using (by omega : j < (zs.map (Value.int .i64)).length)
    refine ⟨zs[j], ?_⟩
    rw [Nat.zero_add, blk_cell hh]
    have hu : (zs.map (Value.int .i64))[j]? = some (.int .i64 zs[j]) := by simp [hz]
    rw [← ht, List.getElem?_take] at hu
    split at hu
    · simpa using hu
    · cases hu

theorem ShapeFrom.within {w w' : World} {lo hi B g : Nat} {zs : List Int} (h : ShapeFrom w B g zs) (hw : Within lo hi w w') (hB : hi ≤ B) : ShapeFrom w' B g zs := by
  obtain ⟨hg, As, Aw, Ab, cs, cw, cb, h1, h2, h3, h4⟩ := h
  exact ⟨hg, As, Aw, Ab, cs, cw, cb, (hw.block g (.inr (by omega))).trans h1, hw.own h2 hB, hw.own h3 hB, hw.own h4 hB⟩

/-- Copies of sizes are written. -/
def BumpI (lo hi : Nat) (A : Option Addr) (n : Nat) (wm wr : World) : Prop := Within lo hi wm wr ∧ OwnN wr lo hi hi A n

set_option maxRecDepth 100000 in
set_option maxHeartbeats 4000000 in
theorem shapeMakes_any (A : Option Addr) (cap : Nat) (zs : List Int) (w : World) (hp : Pow w.heap.size w) (hr : RdI w w.heap.size A zs) (hm : zs.length ≤ 9223372036854775807) :
    Calls Tryd.prog 3 #[.slice A zs.length cap] w fun e w' => e = .returned (.bool true) ∧ Below w.heap.size w w' := by
  have HA := Lib.hid (fun W (hb : Below w.heap.size w W) => alive08_any w.heap.size W (hp.on hb) hb.size)
  by_cases h40 : 40 < zs.length
  · have h40' : (40 : Int) < (zs.length : Int) := by omega
    clear h40
    go_enter Tryd.func3, Tryd.ntmps3
    go_wp2_with fail
    (with_reducible refine (HA.out _ (Below.refl _ _)).mono ?_)
    rintro e w2 ⟨rfl, hb2⟩
    go_wp2_with fail
    go_ret
    exact ⟨rfl, hb2⟩
  · have h40' : (zs.length : Int) ≤ 40 := by omega
    obtain ⟨i0, hi0, hz0, hz1, hz2⟩ := info_parts infoInt
    have hr' := Lib.hid (hr.alloc (Nat.le_refl _) (.cells #[] 3))
    have hb' := Lib.hid ((Below.refl w.heap.size w).alloc (Nat.le_refl _) (.cells #[] 3))
    have ho := Lib.hid (own_empty w 3)
    have H0 := Lib.hid (And.intro hi0 (And.intro hz0 (And.intro hz1 hz2)))
    have HR := Lib.hid (fun W (hb : Below w.heap.size w W) => refShape_any A cap zs W ((hr.below hb).more hb.size) hm)
    have HN := Lib.hid (fun (A0 : Option Addr) (cap0 : Nat) W (hR : RdI W W.heap.size A0 zs) (hc : zs.length ≤ cap0) => newF_any A0 cap0 zs W hR hc hm)
    have HRR := Lib.hid (fun W (hb : Below w.heap.size w W) => (hr.below hb).more hb.size)
    clear hi0 hz0 hz1 hz2 hr hp hm h40
    go_enter Tryd.func3, Tryd.ntmps3
    go_wp2_with (at_builtin; refine wpList_append_rd _ rfl _ _ 22 rfl w.heap.size 3 i0 (.int .i64 0) 8 Tryd.underlying22 H0.out.1 H0.out.2.1 H0.out.2.2.1 H0.out.2.2.2 rfl _ 0 [] rfl ho.out _ A zs.length cap (zs.map (Value.int .i64)) rfl (by simp) hr'.out (ints_one zs) (by simp [maxLen]; omega) (by simp; omega) (by simp) ?_; intro v' w1 hown hg _)
    have hB1 := below_own hb'.out (Nat.le_refl _) (Nat.le_refl _) ho.out hg
    rw [List.length_map, Nat.zero_add, List.nil_append] at hown
    obtain ⟨A0, cap0, rfl⟩ := own_slice hown
    have HB1 := Lib.hid hB1
    have HO1 := Lib.hid hown
    have HN1 := Lib.hid (HN.out A0 cap0 w1 (rd_of_own hown) (own_cap hown))
    clear hown hg hB1 HN hr' hb' ho
    go_wp2_with fail
    (with_reducible refine HN1.out.mono ?_)
    intro e w2 ⟨hb2, hyes, hno⟩
    have HB2 := Lib.hid (HB1.out.trans (hb2.mono HB1.out.size))
    have HS2 := Lib.hid hb2.size
    have HOI := Lib.hid ((ownI_of HO1.out).below (Nat.le_refl _) hb2)
    by_cases h0 : shCode zs = 0
    · obtain ⟨g, rfl, hS⟩ := hyes h0
      have hok := shOk_of h0
      have HSF := Lib.hid hS
      have HLL := Lib.hid hok.1
      have HC := Lib.hid (fun W (hb : Below w.heap.size w W) => refCount_any A cap zs W (HRR.out W hb) hok.2.1 (List.all_eq_true.2 fun z hz => okSz_iff.2 (hok.2.2.1 z hz)))
      rw [h0] at HR
      clear hyes hno hb2 hS h0 hok HN1
      go_wp2_with fail
      (with_reducible refine (HR.out _ HB2.out).mono ?_)
      rintro e w3 ⟨rfl, n3, rfl⟩
      obtain ⟨w3, hw3⟩ : ∃ W, w2.drewN n3 = W := ⟨_, rfl⟩
      rw [hw3]
      have HB3 := Lib.hid (show Below w.heap.size w w3 from hw3 ▸ below_drewN HB2.out n3)
      have HBI := Lib.hid (show BumpI w.heap.size w1.heap.size A0 zs.length w3 w3 from ⟨Within.refl _ _ _, hw3 ▸ HOI.out⟩)
      have HS3 := Lib.hid (show ShapeFrom w3 w1.heap.size g zs from hw3 ▸ HSF.out)
      clear hw3 HSF HOI HR HB2
      go_wp2_with fail
      go_loopw [24] (fun i wr => ∃ k : Nat, k ≤ zs.length ∧ i = .int .i64 k ∧ Hid (BumpI w.heap.size w1.heap.size A0 zs.length w3 wr)) (fun i _ => zs.length - (intOf i).toNat)
      case atStart => exact ⟨0, Nat.zero_le _, rfl, HBI⟩
      case round =>
        obtain ⟨k, hk, rfl, HBk⟩ := hrel
        by_cases hlt : k < zs.length
        · obtain ⟨b, off, rfl, hlo, hbg, hhi, hcell⟩ := HBk.out.2 (by omega)
          obtain ⟨⟨z, hz⟩, hfz⟩ := hcell k hlt
          have hj0 : (0 : Int) ≤ (k : Int) := by omega
          have hj1 : (k : Int) < (zs.length : Int) := by omega
          clear hcell HBI
          go_wp2_with fail
          go_roundw
          case rel => exact ⟨k + 1, by omega, by go_num, Lib.hid ⟨HBk.out.1.setCell ⟨hlo, hhi⟩ _, HBk.out.2.set b _ _⟩⟩
          case measure => simp [intOf]; omega
        · have hge : zs.length ≤ k := by omega
          have HB4 := Lib.hid (HB3.out.trans (HBk.out.1.below (Nat.le_refl _)))
          have HS4 := Lib.hid (HS3.out.within HBk.out.1 (Nat.le_refl _))
          obtain ⟨n1, hn1⟩ : ∃ n, zs.length - 1 = n := ⟨_, rfl⟩
          clear HBk HBI HB3 HS3
          go_wp2_with fail
          (with_reducible refine (HA.out _ HB4.out).mono ?_)
          rintro e w5 ⟨rfl, hb5⟩
          have HB5 := Lib.hid (HB4.out.trans (hb5.mono HB4.out.size))
          have HS5 := Lib.hid (HS4.out.shape.next hb5)
          have HZ := Lib.hid (sizes_any g zs w5 HS5.out (by omega))
          clear hb5 HB4 HS4
          go_wp2_with fail
          (with_reducible refine HZ.out.mono ?_)
          rintro e w6 ⟨v6, rfl, ho6, hb6⟩
          obtain ⟨A6, cap6, rfl⟩ := own_slice ho6
          have HB6 := Lib.hid (HB5.out.trans (hb6.mono HB5.out.size))
          have HS6 := Lib.hid (HS5.out.next hb6)
          have HE := Lib.hid (equalInt_any A6 A cap6 cap zs zs w6 (rd_of_own ho6) (HRR.out _ HB6.out) (by omega) (by omega))
          rw [decide_eq_true (rfl : zs = zs)] at HE
          clear hb6 ho6 HB5 HS5 HZ
          go_wp2_with fail
          (with_reducible refine HE.out.mono ?_)
          rintro e w7 ⟨rfl, hb7⟩
          have HB7 := Lib.hid (HB6.out.trans (hb7.mono HB6.out.size))
          have HS7 := Lib.hid (HS6.out.next hb7)
          have HL7 := Lib.hid (links_any g zs _ w7 HS7.out)
          have HK7 := Lib.hid (count_any g zs _ w7 HS7.out)
          rw [hn1] at HL7
          have hq : ((n1 : Int) == (zs.length : Int) - 1) = true := beq_iff_eq.2 (by have := HLL.out; omega)
          clear hb7 HB6 HS6 HE hn1
          go_wp2_with fail
          (with_reducible refine HL7.out.mono ?_)
          rintro e w8 ⟨rfl, rfl⟩
          go_wp2_with fail
          (with_reducible refine HK7.out.mono ?_)
          rintro e w8 ⟨rfl, rfl⟩
          go_wp2_with fail
          (with_reducible refine (HC.out _ HB7.out).mono ?_)
          rintro e w8 ⟨rfl, n8, rfl⟩
          go_wp2_with fail
          go_ret
          exact ⟨by simp, below_drewN HB7.out _⟩
    · obtain rfl := hno h0
      obtain ⟨c, hc⟩ : ∃ c, shCode zs = c := ⟨_, rfl⟩
      rw [hc] at HR h0 ⊢
      have hc0 : (c != 0) = true := by simpa using h0
      clear hyes hno hb2 h0 hc HN1
      go_wp2_with fail
      (with_reducible refine (HR.out _ HB2.out).mono ?_)
      rintro e w3 ⟨rfl, n3, rfl⟩
      obtain ⟨w3, hw3⟩ : ∃ W, w2.drewN n3 = W := ⟨_, rfl⟩
      rw [hw3]
      have HB3 := Lib.hid (show Below w.heap.size w w3 from hw3 ▸ below_drewN HB2.out n3)
      have HBI := Lib.hid (show BumpI w.heap.size w1.heap.size A0 zs.length w3 w3 from ⟨Within.refl _ _ _, hw3 ▸ HOI.out⟩)
      clear hw3 HOI HR HB2
      go_wp2_with fail
      go_loopw [24] (fun i wr => ∃ k : Nat, k ≤ zs.length ∧ i = .int .i64 k ∧ Hid (BumpI w.heap.size w1.heap.size A0 zs.length w3 wr)) (fun i _ => zs.length - (intOf i).toNat)
      case atStart => exact ⟨0, Nat.zero_le _, rfl, HBI⟩
      case round =>
        obtain ⟨k, hk, rfl, HBk⟩ := hrel
        by_cases hlt : k < zs.length
        · obtain ⟨b, off, rfl, hlo, hbg, hhi, hcell⟩ := HBk.out.2 (by omega)
          obtain ⟨⟨z, hz⟩, hfz⟩ := hcell k hlt
          have hj0 : (0 : Int) ≤ (k : Int) := by omega
          have hj1 : (k : Int) < (zs.length : Int) := by omega
          clear hcell HBI
          go_wp2_with fail
          go_roundw
          case rel => exact ⟨k + 1, by omega, by go_num, Lib.hid ⟨HBk.out.1.setCell ⟨hlo, hhi⟩ _, HBk.out.2.set b _ _⟩⟩
          case measure => simp [intOf]; omega
        · have hge : zs.length ≤ k := by omega
          have HB4 := Lib.hid (HB3.out.trans (HBk.out.1.below (Nat.le_refl _)))
          clear HBk HBI HB3
          go_wp2_with fail
          (with_reducible refine (HA.out _ HB4.out).mono ?_)
          rintro e w5 ⟨rfl, hb5⟩
          have HB5 := Lib.hid (HB4.out.trans (hb5.mono HB4.out.size))
          clear hb5 HB4
          go_wp2_with fail
          go_ret
          exact ⟨rfl, HB5.out⟩

end Go.Proofs.YtjjoendjgiiknaaDoor
