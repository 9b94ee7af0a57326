/- Walk: the reference's Range. Conditions: none. -/
import Derived.Test.YtnifbipbpengeaaDoorAppend
import Derived.Test.YtnifbipbpengeaaDoorRangePlain
import Derived.Test.YtnifbipbpengeaaDoorOwn
import Derived.Deep.RegionHeld3
import Derived.WalkKit
namespace Go.Proofs.YtnifbipbpengeaaDoor
open Go.RowKit

theorem infoI64r : (Tryd.prog.info? 2).map (fun i => (i.zero, i.size, i.bytes)) = some (some (.int .i64 0), 1, 8) := by kernel_rfl

set_option maxRecDepth 100000 in
set_option maxHeartbeats 4000000 in
theorem refRange_any (A : Option Addr) (ex : List Ex) (cap : Nat) (hm : ex.length ≤ 60) (hl : ∀ e ∈ ex, e.xs.length ≤ 600 ∧ e.ys.length ≤ 600) (w : World) (hr : RdE w w.heap.size A ex) :
    Calls Tryd.prog 7 #[.slice A ex.length cap] w fun e w' => e = .returned (rngVal (exAll ex)) ∧ Below w.heap.size w w' := by
  obtain ⟨i0, hi, hz0, hz1, hz2⟩ := info_parts infoI64r
  have HI := Lib.hid (And.intro hi (And.intro hz0 (And.intro hz1 hz2)))
  have HL := Lib.hid hl
  have HR := Lib.hid hr
  clear hi hz0 hz1 hz2 hl hr
  go_enter Tryd.func7, Tryd.ntmps7
  go_wp2_with fail
  go_loopw [5, 6] (fun v i wr => ∃ k : Nat, k ≤ ex.length ∧ i = .int .i64 k ∧ Hid (wr.ownsRow w.heap.size 2 1 v (exAll (ex.take k)).length ((exAll (ex.take k)).map (Value.int .i64)) ∧ Below w.heap.size w wr)) (fun _ i _ => ex.length - (intOf i).toNat)
  case atStart => exact ⟨0, Nat.zero_le _, rfl, Lib.hid ⟨own_nil _ _ _ _, Below.refl _ _⟩⟩
  case round =>
    obtain ⟨k, hk, rfl, HS⟩ := hrel
    by_cases hlt : k < ex.length
    · have HB := Lib.hid (below_drew HS.out.2)
      have HO := Lib.hid (show wr.drew.ownsRow w.heap.size 2 1 u5 (exAll (ex.take k)).length ((exAll (ex.take k)).map (Value.int .i64)) from HS.out.1)
      clear HS
      obtain ⟨b, off, rfl, hb, hc⟩ := HR.out.at_ (by omega)
      obtain ⟨e, he⟩ := get_some ex k hlt
      have HC := Lib.hid (fun W (hW : Below w.heap.size w W) => And.intro ((hW.cell (p := ⟨b, off + k * 2, none⟩) hb).trans (hc k e he).1) ((hW.cell (p := ⟨b, off + k * 2 + 1, none⟩) hb).trans (hc k e he).2))
      have HX := Lib.hid (HR.out.2 e (List.mem_of_getElem? he))
      have HE := Lib.hid (exAll_snoc he)
      have hLE := HL.out e (List.mem_of_getElem? he)
      have hLA : (exAll (ex.take k)).length ≤ 72000 := by
        have h := exAll_len (l := ex.take k) (fun x hx => HL.out x (List.mem_of_mem_take hx))
        have : (ex.take k).length ≤ 60 := by rw [List.length_take]; omega
        omega
      have HN := Lib.hid (And.intro hLA hLE)
      have hn0 : (0 : Int) ≤ (k : Int) := by omega
      clear hc he hLA hLE
      obtain ⟨pr, hpr⟩ : ∃ pr, exAll (ex.take k) = pr := ⟨_, rfl⟩
      rw [hpr] at HO HN HE
      clear hpr
      go_wp2_with fail
      go_region_held3 (fun w' => w'.cell? ⟨b, off + k * 2, none⟩ = some (.slice e.ax e.xs.length e.cx) ∧ w'.cell? ⟨b, off + k * 2 + 1, none⟩ = some (.slice e.ay e.ys.length e.cy))
        (first
          | with_reducible exact HC.out _ HB.out
          | with_reducible exact HC.out _ HB1.out
          | with_reducible exact HC.out _ HB2.out)
        (first
          | (rw [if_pos (by rfl)]
             refine wp_append_rd _ _ _ 28 (by rfl) w.heap.size 2 i0 (.int .i64 0) 8 Tryd.underlying28 HI.out.1 HI.out.2.1 HI.out.2.2.1 HI.out.2.2.2 rfl _ (pr.length + e.xs.length) ((pr ++ e.xs).map (Value.int .i64)) (by rfl) HO1.out w.heap.size e.ay e.ys.length e.cy (e.ys.map (Value.int .i64)) (by rfl) (by simp) (HX.out.2.1.below HB1.out) (ints_one _) (by have := HN.out; simp [maxLen]; omega) (by have := HN.out; simp; omega) HB1.out.size ?_
             intro v3 w3 hown3 hgrow3 _
             have HB2 := Lib.hid (below_own HB1.out (Nat.le_refl _) (Nat.le_refl _) HO1.out hgrow3)
             have HO2 := Lib.hid hown3
             clear hown3 hgrow3)
          | (rw [if_pos (by rfl)]
             refine wp_append_rd _ _ _ 28 (by rfl) w.heap.size 2 i0 (.int .i64 0) 8 Tryd.underlying28 HI.out.1 HI.out.2.1 HI.out.2.2.1 HI.out.2.2.2 rfl _ pr.length (pr.map (Value.int .i64)) (by rfl) HO.out w.heap.size e.ax e.xs.length e.cx (e.xs.map (Value.int .i64)) (by rfl) (by simp) (HX.out.1.below HB.out) (ints_one _) (by have := HN.out; simp [maxLen]; omega) (by have := HN.out; simp; omega) HB.out.size ?_
             intro v2 w2 hown2 hgrow2 _
             have HB1 := Lib.hid (below_own HB.out (Nat.le_refl _) (Nat.le_refl _) HO.out hgrow2)
             have HO1 := Lib.hid (show w2.ownsRow w.heap.size 2 1 v2 (pr.length + e.xs.length) ((pr ++ e.xs).map (Value.int .i64)) by simpa using hown2)
             clear hown2 hgrow2))
      go_wp2_with fail
      go_roundw
      case rel => exact ⟨k + 1, by omega, by go_num, Lib.hid ⟨by rw [HE.out, exNums]; simpa [Nat.add_assoc] using HO2.out, HB2.out⟩⟩
      case measure => simp [intOf]; omega
    · have HB := Lib.hid HS.out.2
      have HO := Lib.hid (show wr.ownsRow w.heap.size 2 1 u5 (exAll ex).length ((exAll ex).map (Value.int .i64)) by have h := HS.out.1; rw [show ex.take k = ex from List.take_of_length_le (by omega)] at h; exact h)
      clear HS
      have HN : (exAll ex).length ≤ 72000 := by
        have h := exAll_len (l := ex) HL.out
        omega
      obtain ⟨all, ha⟩ : ∃ all, exAll ex = all := ⟨_, rfl⟩
      rw [ha] at HO HN
      have HA := Lib.hid ha
      obtain ⟨G, cp, rfl⟩ := own_slice HO.out
      have HRD := Lib.hid (show RdI wr wr.heap.size G all from rd_of_own HO.out)
      clear ha HO HR HL HI
      rcases Nat.eq_zero_or_pos all.length with h0 | h0
      · have HV := Lib.hid (show rngVal (exAll ex) = .tuple #[.int .i64 0, .int .i64 0, .bool false] by rw [HA.out, List.eq_nil_of_length_eq_zero h0]; rfl)
        rw [h0]
        clear HRD HN HA h0
        go_wp2_with fail
        go_ret3
        exact ⟨by rw [HV.out] <;> rfl, HB.out⟩
      · obtain ⟨b, off, rfl, _, hc⟩ := HRD.out.at_ h0
        obtain ⟨z, hz⟩ := get_some all 0 h0
        have c0 := hc 0 z hz
        rw [Nat.add_zero] at c0
        have HV := Lib.hid (show rngVal (exAll ex) = .tuple #[.int .i64 (all.foldl min z), .int .i64 (all.foldl max z), .bool true] by
          rw [HA.out]
          cases all with
          | nil => simp at h0
          | cons y r =>
            simp at hz
            subst hz
            rw [lowOf_self, highOf_self]; rfl)
        have HC := Lib.hid hc
        have hne : ((all.length : Int) == 0) = false := by simp; intro h; rw [h] at h0; simp at h0
        clear HRD HA hz hc
        obtain ⟨n, hn⟩ : ∃ n, all.length = n := ⟨_, rfl⟩
        rw [hn] at h0 HN hne ⊢
        have HLN := Lib.hid hn
        clear hn
        have h0' : (0 : Int) < (n : Int) := by omega
        go_wp2_with fail
        go_loop [7, 8, 9] (fun lo hi i => ∃ m : Nat, m ≤ n ∧ i = .int .i64 m ∧ lo = .int .i64 ((all.take m).foldl min z) ∧ hi = .int .i64 ((all.take m).foldl max z)) (fun _ _ i => n - (intOf i).toNat)
        case atStart => exact ⟨0, Nat.zero_le _, rfl, rfl, rfl⟩
        case round =>
          obtain ⟨m, hm2, rfl, rfl, rfl⟩ := hrel
          by_cases hmt : m < n
          · obtain ⟨x, hx⟩ := get_some all m (by rw [HLN.out]; exact hmt)
            have cx := HC.out m x hx
            have HMN := Lib.hid (show (all.take (m + 1)).foldl min z = if x < (all.take m).foldl min z then x else (all.take m).foldl min z by rw [foldMin_snoc _ _ _ _ hx]; split <;> omega)
            have HMX := Lib.hid (show (all.take (m + 1)).foldl max z = if (all.take m).foldl max z < x then x else (all.take m).foldl max z by rw [foldMax_snoc _ _ _ _ hx]; split <;> omega)
            clear hx
            generalize (all.take m).foldl min z = lo at *
            generalize (all.take m).foldl max z = hi at *
            go_wp2_with fail
            go_round
            case rel => exact ⟨m + 1, by omega, by go_num, by rw [HMN.out], by rw [HMX.out]⟩
            case measure => simp [intOf]; omega
          · have HE := Lib.hid (show all.take m = all from List.take_of_length_le (by rw [HLN.out]; omega))
            rw [HE.out]
            generalize all.foldl min z = lo at *
            generalize all.foldl max z = hi at *
            go_wp2_with fail
            go_ret3
            exact ⟨by rw [HV.out]; rfl, HB.out⟩

end Go.Proofs.YtnifbipbpengeaaDoor
