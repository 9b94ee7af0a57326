/- Walks: DataPicks. Conditions: the table of powers of ten reads as listed. -/
import Derived.Test.YtajilipbnfpemaaDoorDataText
import Derived.Test.YtajilipbnfpemaaDoorDataCheck
import Derived.Test.YtajilipbnfpemaaDoorBump
namespace Go.Proofs.YtajilipbnfpemaaDoor
open Go.RowKit

theorem exSum_mem : ∀ {l : List Ex} {e : Ex}, e ∈ l → min (e.xs.length : Int) 1000 + min (e.ys.length : Int) 1000 ≤ exSum l
  | [], _, h => by cases h
  | x :: l, e, h => by
    simp only [exSum]
    rcases List.mem_cons.1 h with rfl | h
    · have := (exSum_bd l).1
      omega
    · have := exSum_mem h
      omega
theorem exFew_mem {l : List Ex} (h : exFew l = true) : l.length ≤ 60 ∧ ∀ e ∈ l, e.xs.length ≤ 600 ∧ e.ys.length ≤ 600 := by
  simp only [exFew, Bool.and_eq_true, decide_eq_true_eq] at h
  refine ⟨h.1, fun e he => ?_⟩
  rw [List.take_of_length_le (by omega)] at h
  have := exSum_mem he
  omega

/-- The numbers of the call's own examples are written, one by one. -/
def BumpK (lo hi : Nat) (A : Option Addr) (L : List Ex) (wm wr : World) : Prop := Within lo hi wm wr ∧ (0 < L.length → ∃ g, A = some ⟨g, 0, none⟩ ∧ Bump lo hi g L wm wr)

/-- What is returned: all, or nothing. -/
def outL (idx : List Int) (p : List Ex) : List Ex := if p.length = idx.length then p else []

theorem picked_out {idx : List Int} {p : List Ex} {w w' : World} {e : Ending} (h : PickedC idx p w e w') (hl : p.length ≤ idx.length) :
    ∃ Ax capx Lx, e = .returned (.tuple #[.slice Ax (List.length Lx) capx, .bool (decide (p.length = idx.length))]) ∧ Copies w.heap.size w' (.slice Ax Lx.length capx) (outL idx p) Lx ∧ Below w.heap.size w w' := by
  rcases Nat.lt_or_ge p.length idx.length with h1 | h1
  · have hne : ¬ p.length = idx.length := by omega
    refine ⟨none, 0, [], ?_, ?_, h.2.2⟩
    · rw [h.2.1 h1, decide_eq_false hne]; rfl
    · rw [outL, if_neg hne]; exact Copies.nil_ _ _
  · have he : p.length = idx.length := by omega
    obtain ⟨v, L, rfl, hC⟩ := h.1 he
    obtain ⟨A, c, rfl⟩ := own_slice hC.2.1
    exact ⟨A, c, L, by rw [decide_eq_true he], by rw [outL, if_pos he]; exact hC, h.2.2⟩
theorem pickedR_out {idx : List Int} {p : List Ex} {w w' : World} {e : Ending} (h : PickedR idx p w e w') (hl : p.length ≤ idx.length) :
    ∃ Ax capx, e = .returned (.tuple #[.slice Ax (outL idx p).length capx, .bool (decide (p.length = idx.length))]) ∧ w'.ownsRow w.heap.size 46 2 (.slice Ax (outL idx p).length capx) (outL idx p).length (exCells (outL idx p)) ∧ Below w.heap.size w w' := by
  rcases Nat.lt_or_ge p.length idx.length with h1 | h1
  · have hne : ¬ p.length = idx.length := by omega
    refine ⟨none, 0, ?_, ?_, h.2.2⟩
    · rw [h.2.1 h1, decide_eq_false hne, outL, if_neg hne]; rfl
    · rw [outL, if_neg hne]; exact own_nil _ _ _ _
  · have he : p.length = idx.length := by omega
    obtain ⟨v, rfl, hC⟩ := h.1 he
    obtain ⟨A, c, rfl⟩ := own_slice hC
    exact ⟨A, c, by rw [decide_eq_true he, outL, if_pos he], by rw [outL, if_pos he]; exact hC, h.2.2⟩
theorem outL_same {idx : List Int} {p q : List Ex} (h : SameL p q) : SameL (outL idx p) (outL idx q) := by
  unfold outL
  rw [h.1]
  split
  · exact h
  · exact ⟨rfl, fun k e f he _ => by simp at he⟩
theorem outL_mem {idx : List Int} {p : List Ex} {e : Ex} (h : e ∈ outL idx p) : e ∈ p := by
  unfold outL at h
  split at h
  · exact h
  · cases h

set_option maxRecDepth 100000 in
set_option maxHeartbeats 4000000 in
theorem dataPicks_any (A : Option Addr) (l : List Ex) (cap : Nat) (Ai : Option Addr) (idx : List Int) (capi : Nat) (w : World) (hp : Pow w.heap.size w) (hr : RdE w w.heap.size A l) (hm : l.length ≤ 9223372036854775807) (hi : RdI w w.heap.size Ai idx) (him : idx.length ≤ 9223372036854775807) :
    Calls Tryd.prog 6 #[.slice A l.length cap, .slice Ai idx.length capi] w fun e w' => e = .returned (.bool true) ∧ Below w.heap.size w w' := by
  have HA := Lib.hid (fun W (hb : Below w.heap.size w W) => alive10_any w.heap.size W (hp.on hb) hb.size)
  have F := dataFew_any A cap l w hr hm
  cases hf : exFew l
  · rw [hf] at F
    have HF := Lib.hid F
    clear F hf hp hr hi
    go_enter Tryd.func6, Tryd.ntmps6
    go_wp2_with fail
    (with_reducible refine HF.out.mono ?_)
    rintro e w1 ⟨rfl, n, rfl⟩
    go_wp2_with fail
    (with_reducible refine (HA.out _ (below_drewN (Below.refl _ _) n)).mono ?_)
    rintro e w2 ⟨rfl, hb2⟩
    have HB2 := Lib.hid ((below_drewN (Below.refl w.heap.size w) n).trans hb2)
    clear hb2
    go_wp2_with fail
    go_ret
    exact ⟨rfl, HB2.out⟩
  · rw [hf] at F
    have HF := Lib.hid F
    obtain ⟨hl60, hl600⟩ := exFew_mem hf
    by_cases hix : 100 < idx.length
    · have hix' : (100 : Int) < (idx.length : Int) := by omega
      clear F hf hp hr hi hl60 hl600 hix
      go_enter Tryd.func6, Tryd.ntmps6
      go_wp2_with fail
      (with_reducible refine HF.out.mono ?_)
      rintro e w1 ⟨rfl, n, rfl⟩
      go_wp2_with fail
      (with_reducible refine (HA.out _ (below_drewN (Below.refl _ _) n)).mono ?_)
      rintro e w2 ⟨rfl, hb2⟩
      have HB2 := Lib.hid ((below_drewN (Below.refl w.heap.size w) n).trans hb2)
      clear hb2
      go_wp2_with fail
      go_ret
      exact ⟨rfl, HB2.out⟩
    · have hix' : (idx.length : Int) ≤ 100 := by omega
      have hle : ∀ ex ∈ l, ex.xs.length ≤ 1099511627776 ∧ ex.ys.length ≤ 1099511627776 := fun ex hex => by have := hl600 ex hex; omega
      obtain ⟨q, hq⟩ := sel_of l idx
      have HC := Lib.hid (fun W (hb : Below w.heap.size w W) => refClone_any A cap l W ((hr.below hb).more hb.size) (by omega) hle)
      have HP := Lib.hid (fun (A0 : Option Addr) (cap0 : Nat) (L p : List Ex) W (hb : Below w.heap.size w W) (hR : RdE W W.heap.size A0 L) (hL : L.length ≤ 100000) (hs : Sel L idx p) (h : ∀ ex ∈ L, ex.xs.length ≤ 1099511627776 ∧ ex.ys.length ≤ 1099511627776) =>
        pick_any Ai capi idx A0 cap0 L p W ((hi.below hb).more hb.size) (by omega) hR (by omega) hs h)
      have HK := Lib.hid (fun W (hb : Below w.heap.size w W) => refPick_any Ai capi idx A cap l q W ((hi.below hb).more hb.size) (by omega) ((hr.below hb).more hb.size) hm hq)
      have HM := Lib.hid hr
      have HQ := Lib.hid hq
      have HLE := Lib.hid hle
      have HL6 := Lib.hid hl60
      clear F hf hp hr hi hl60 hl600 hix hle hq
      go_enter Tryd.func6, Tryd.ntmps6
      go_wp2_with fail
      (with_reducible refine HF.out.mono ?_)
      rintro e w1 ⟨rfl, n, rfl⟩
      have HB1 := Lib.hid (below_drewN (Below.refl w.heap.size w) n)
      go_wp2_with fail
      (with_reducible refine (HC.out _ HB1.out).mono ?_)
      rintro e w2 ⟨v0, L, rfl, hC, hb2⟩
      have HB2 := Lib.hid (HB1.out.trans hb2)
      obtain ⟨A0, cap0, rfl⟩ := own_slice hC.2.1
      obtain ⟨p, hs⟩ := sel_of L idx
      have HCC := Lib.hid hC
      have HSP := Lib.hid hs
      have HEE := Lib.hid (rdE_of_copies hC rfl HLE.out)
      have hLl : L.length ≤ 60 := by have := hC.1; have := HL6.out; omega
      have HEL := Lib.hid (show ∀ ex ∈ L, ex.xs.length ≤ 1099511627776 ∧ ex.ys.length ≤ 1099511627776 from fun c hc => by
        obtain ⟨i, hi⟩ := List.getElem?_of_mem hc
        obtain ⟨x, hx⟩ := get_some l i (by rw [← hC.1]; exact (List.getElem?_eq_some_iff.1 hi).1)
        have h4 := hC.2.2 i x c hx hi
        rw [h4.1, h4.2.1]
        exact HLE.out x (List.mem_of_getElem? hx))
      have HSM := Lib.hid (sel_same hC.1 (same_of_copies hC) hs HQ.out)
      clear hb2 hC hs HC HF
      go_wp2_with fail
      (with_reducible refine (HP.out A0 cap0 L p _ HB2.out HEE.out (by omega) HSP.out HEL.out).mono ?_)
      intro e w3 hk3
      obtain ⟨Ax, capx, Lx, rfl, hCx, hb3⟩ := picked_out hk3 HSP.out.1
      have HB3 := Lib.hid (HB2.out.trans (hb3.mono HB2.out.size))
      have HX := Lib.hid hCx
      have HHI := Lib.hid hb3
      have HQS := Lib.hid hb3.size
      have hpq := HSM.out.1
      rw [hpq]
      obtain ⟨bo, hbo⟩ : ∃ b : Bool, decide (q.length = idx.length) = b := ⟨_, rfl⟩
      rw [hbo]
      have HBO := Lib.hid hbo
      clear hk3 hCx hb3 hpq hbo HP HEE
      go_wp2_with fail
      (with_reducible refine (HK.out _ HB3.out).mono ?_)
      intro e w4 hk4
      obtain ⟨Ar, capr, rfl, hCr, hb4⟩ := pickedR_out hk4 HQ.out.1
      have HB4 := Lib.hid (HB3.out.trans (hb4.mono HB3.out.size))
      have HHJ := Lib.hid (HHI.out.trans (hb4.mono HHI.out.size))
      have HXR := Lib.hid hCr
      have HXX := Lib.hid (HX.out.below hb4)
      obtain ⟨rl, hrl⟩ : ∃ n : Nat, (outL idx q).length = n := ⟨_, rfl⟩
      rw [hrl]
      have HRL := Lib.hid hrl
      rw [HBO.out]
      have HSZ := Lib.hid hb4.size
      clear hk4 hCr hb4 hrl HK HX HHI
      have hL0 : (L.length : Int) ≤ 60 := by omega
      have HST := Lib.hid (show BumpK w.heap.size w2.heap.size A0 L w4 w4 from ⟨Within.refl _ _ _, fun h0 => bump_start ⟨HCC.out.1, own_more HCC.out.2.1 HB1.out.size, fun i e c he hc => (HCC.out.2.2 i e c he hc).more HB1.out.size⟩ h0 HHJ.out⟩)
      go_wp2_with fail
      go_loopw [38] (fun i wr => ∃ k : Nat, k ≤ L.length ∧ i = .int .i64 k ∧ Hid (BumpK w.heap.size w2.heap.size A0 L w4 wr)) (fun i _ => L.length - (intOf i).toNat)
      case atStart => exact ⟨0, Nat.zero_le _, rfl, HST⟩
      case round =>
        obtain ⟨k, hk, rfl, HBm⟩ := hrel
        by_cases hlt : k < L.length
        · obtain ⟨g, rfl, hbm⟩ := HBm.out.2 (by omega)
          obtain ⟨ex, hex⟩ := get_some L k hlt
          have HMX := Lib.hid (List.mem_of_getElem? hex)
          have hel := HEL.out ex (List.mem_of_getElem? hex)
          obtain ⟨ax, xs, cx, ay, ys, cy⟩ := ex
          dsimp only at hel
          have HB0 := Lib.hid hbm
          obtain ⟨c1, c2⟩ := hbm.outer k _ hex
          dsimp only at c1 c2
          have HEX := Lib.hid hex
          have h0 : (0 : Int) ≤ (k : Int) := by omega
          have h1 : (k : Int) < (L.length : Int) := by omega
          have hxl : (xs.length : Int) ≤ 1099511627776 := by omega
          have hyl : (ys.length : Int) ≤ 1099511627776 := by omega
          clear hbm hex HBm HST hel
          go_wp2_with fail
          clear c1 c2
          go_loopw [47] (fun i wi => ∃ j : Nat, j ≤ xs.length ∧ i = .int .i64 j ∧ Hid (Bump w.heap.size w2.heap.size g L w4 wi)) (fun i _ => xs.length - (intOf i).toNat)
          case atStart => exact ⟨0, Nat.zero_le _, rfl, HB0⟩
          case round =>
            obtain ⟨j, hj, rfl, HBi⟩ := hrel
            clear HB0
            obtain ⟨d1, d2⟩ := HBi.out.outer k _ HEX.out
            dsimp only at d1 d2
            by_cases hjl : j < xs.length
            · obtain ⟨b, off, hax, hlo, hbg, hhi, hcell⟩ := (HBi.out.nums _ HMX.out).1 (by dsimp only; omega)
              dsimp only at hax hcell
              subst hax
              obtain ⟨⟨z, hz⟩, hfz⟩ := hcell j hjl
              have hj0 : (0 : Int) ≤ (j : Int) := by omega
              have hj1 : (j : Int) < (xs.length : Int) := by omega
              clear hcell
              go_wp2_with fail
              go_roundw
              case rel => exact ⟨j + 1, by omega, by go_num, Lib.hid (HBi.out.set ⟨hlo, hhi⟩ hbg _ _)⟩
              case measure => simp [intOf]; omega
            · have hjg : xs.length ≤ j := by omega
              go_wp2_with fail
              clear d1 d2
              go_loopw [67] (fun i wi => ∃ j : Nat, j ≤ ys.length ∧ i = .int .i64 j ∧ Hid (Bump w.heap.size w2.heap.size g L w4 wi)) (fun i _ => ys.length - (intOf i).toNat)
              case atStart => exact ⟨0, Nat.zero_le _, rfl, HBi⟩
              case round =>
                obtain ⟨m, hm', rfl, HBy⟩ := hrel
                clear HBi
                obtain ⟨d1, d2⟩ := HBy.out.outer k _ HEX.out
                dsimp only at d1 d2
                by_cases hml : m < ys.length
                · obtain ⟨b, off, hay, hlo, hbg, hhi, hcell⟩ := (HBy.out.nums _ HMX.out).2 (by dsimp only; omega)
                  dsimp only at hay hcell
                  subst hay
                  obtain ⟨⟨z, hz⟩, hfz⟩ := hcell m hml
                  have hj0 : (0 : Int) ≤ (m : Int) := by omega
                  have hj1 : (m : Int) < (ys.length : Int) := by omega
                  clear hcell
                  go_wp2_with fail
                  go_roundw
                  case rel => exact ⟨m + 1, by omega, by go_num, Lib.hid (HBy.out.set ⟨hlo, hhi⟩ hbg _ _)⟩
                  case measure => simp [intOf]; omega
                · have hmg : ys.length ≤ m := by omega
                  go_wp2_with fail
                  go_roundw
                  case rel => exact ⟨k + 1, by omega, by go_num, Lib.hid ⟨HBy.out.within, fun _ => ⟨g, rfl, HBy.out⟩⟩⟩
                  case measure => simp [intOf]; omega
        · have hge : L.length ≤ k := by omega
          have HB5 := Lib.hid (HB4.out.trans (HBm.out.1.below (Nat.le_refl _)))
          have HXW := Lib.hid (HXX.out.within HBm.out.1 (Nat.le_refl _))
          have HRW := Lib.hid (HBm.out.1.own HXR.out HQS.out)
          have hbb : (bo == bo) = true := by simp
          clear HBm HXX HXR HST HHJ HCC
          go_wp2_with fail
          (with_reducible refine (HA.out _ HB5.out).mono ?_)
          rintro e w6 ⟨rfl, hb6⟩
          have HB6 := Lib.hid (HB5.out.trans (hb6.mono HB5.out.size))
          have h1 := rdE_of_copies (HXW.out.below hb6) rfl (fun ex hex => HEL.out ex (sel_mem HSP.out (outL_mem hex)))
          have h2 := rdE_of_row (own_below HRW.out hb6) (fun e he => ((HM.out.2 e (sel_mem HQ.out (outL_mem he))).below HB6.out).more HB6.out.size)
          have h3 : Lx.length ≤ 9223372036854775807 := by
            have h4 := HXW.out.1
            have h5 : (outL idx p).length ≤ p.length := by unfold outL; split <;> simp
            have h6 := HSP.out.1
            omega
          have hS := sameAll_yes Ax Ar capx capr Lx (outL idx q) w6 h1 h2 h3 ((same_of_copies HXW.out).trans (outL_same HSM.out))
          rw [HRL.out] at hS
          have HS := Lib.hid hS
          clear hS h1 h2 h3 hb6 HB5 HXW HRW
          go_wp2_with fail
          (with_reducible refine HS.out.mono ?_)
          rintro e w7 ⟨rfl, hb7⟩
          have HB7 := Lib.hid (HB6.out.trans (hb7.mono HB6.out.size))
          clear hb7 HB6
          go_wp2_with fail
          go_ret
          exact ⟨rfl, HB7.out⟩

end Go.Proofs.YtajilipbnfpemaaDoor
