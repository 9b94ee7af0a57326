/- Walks: the reference's Few and Places. Conditions: none. -/
import Derived.Test.YtjjoendjgiiknaaDoorShapeBits
namespace Go.Proofs.YtjjoendjgiiknaaDoor
open Go.RowKit

def fewS (zs : List Int) : Bool := decide (zs.length ≤ 40) && (decide (shCode zs ≠ 0) || decide (cnt zs ≤ 400))

set_option maxHeartbeats 1000000 in
theorem refFew_any (A : Option Addr) (cap : Nat) (zs : List Int) (w : World) (hr : RdI w w.heap.size A zs) (hm : zs.length ≤ 9223372036854775807) :
    Calls Tryd.prog 21 #[.slice A zs.length cap] w fun e w' => e = .returned (.bool (fewS zs)) ∧ ∃ n, w' = w.drewN n := by
  by_cases h40 : 40 < zs.length
  · have hf : fewS zs = false := by simp [fewS]; omega
    rw [hf]
    have h40' : ¬ (zs.length : Int) ≤ 40 := by omega
    clear h40 hf
    go_enter Tryd.func21, Tryd.ntmps21
    go_wp2_with fail
    go_ret
    exact ⟨rfl, 0, rfl⟩
  · have h40' : (zs.length : Int) ≤ 40 := by omega
    have HR := Lib.hid (refShape_any A cap zs w hr hm)
    by_cases h0 : shCode zs = 0
    · have hok := shOk_of h0
      have HC := Lib.hid (fun n => refCount_any A cap zs (w.drewN n) (hr.drewN n) hok.2.1 (List.all_eq_true.2 fun z hz => okSz_iff.2 (hok.2.2.1 z hz)))
      have hf : fewS zs = decide (cnt zs ≤ 400) := by
        have : decide (zs.length ≤ 40) = true := decide_eq_true (by omega)
        simp [fewS, h0, this]
      rw [hf]
      rw [h0] at HR
      generalize cnt zs = c at *
      clear h40 hf h0 hok hr
      go_enter Tryd.func21, Tryd.ntmps21
      go_wp2_with fail
      (with_reducible refine HR.out.mono ?_)
      rintro e w1 ⟨rfl, n, rfl⟩
      go_wp2_with fail
      (with_reducible refine (HC.out n).mono ?_)
      rintro e w1 ⟨rfl, q, rfl⟩
      go_wp2_with fail
      go_ret
      exact ⟨by simp, _, rfl⟩
    · have hf : fewS zs = true := by
        have : decide (zs.length ≤ 40) = true := decide_eq_true (by omega)
        simp [fewS, h0, this]
      rw [hf]
      obtain ⟨c, hc⟩ : ∃ c, shCode zs = c := ⟨_, rfl⟩
      rw [hc] at HR h0
      have hc0 : (c != 0) = true := by simpa using h0
      clear h40 hf h0 hc hr
      go_enter Tryd.func21, Tryd.ntmps21
      go_wp2_with fail
      (with_reducible refine HR.out.mono ?_)
      rintro e w1 ⟨rfl, n, rfl⟩
      go_wp2_with fail
      go_ret
      exact ⟨rfl, _, rfl⟩

/-! The list of places in memory. -/
def plCells (p : Pl) : List Value := [.int .i64 p.k, .int .i64 p.r, .int .i64 p.c]
def plFlat (l : List Pl) : List Value := l.flatMap plCells
theorem plFlat_snoc (l : List Pl) (p : Pl) : plFlat (l ++ [p]) = plFlat l ++ plCells p := by simp [plFlat]
def rowsP (k a r : Nat) : List Pl := (List.range r).flatMap fun (r : Nat) => (List.range a).map fun (c : Nat) => (⟨(k : Int), (r : Int), (c : Int)⟩ : Pl)
def colP (k r c : Nat) : List Pl := (List.range c).map fun (c : Nat) => (⟨(k : Int), (r : Int), (c : Int)⟩ : Pl)
def biasP (k r : Nat) : List Pl := (List.range r).map fun (r : Nat) => (⟨(k : Int), (r : Int), -1⟩ : Pl)
theorem rowsP_succ (k a r : Nat) : rowsP k a (r + 1) = rowsP k a r ++ colP k r a := by simp [rowsP, colP, List.range_succ]
theorem colP_succ (k r c : Nat) : colP k r (c + 1) = colP k r c ++ [⟨(k : Int), (r : Int), (c : Int)⟩] := by simp [colP, List.range_succ]
theorem biasP_succ (k r : Nat) : biasP k (r + 1) = biasP k r ++ [⟨(k : Int), (r : Int), -1⟩] := by simp [biasP, List.range_succ]
theorem block_parts (k a b : Nat) : blockP k a b = rowsP k a b ++ biasP k b := rfl
theorem rowsP_len (k a r : Nat) : (rowsP k a r).length = r * a := grid_len (fun (r c : Nat) => (⟨(k : Int), (r : Int), (c : Int)⟩ : Pl)) a r
theorem colP_len (k r c : Nat) : (colP k r c).length = c := by simp [colP]
theorem biasP_len (k r : Nat) : (biasP k r).length = r := by simp [biasP]

/-- The row v holds these places. -/
def OwnP (w : World) (B : Nat) (v : Value) (l : List Pl) : Prop := w.ownsRow B 49 3 v l.length (plFlat l)
theorem infoPl : (Tryd.prog.info? 49).map (fun i => (i.zero, i.size, i.bytes)) = some (some (.agg #[.int .i64 0, .int .i64 0, .int .i64 0]), 3, 24) := by kernel_rfl

set_option maxRecDepth 100000 in
set_option maxHeartbeats 4000000 in
theorem refPlaces_any (A : Option Addr) (cap : Nat) (zs : List Int) (hs : ShOk zs) (w : World) (hr : RdI w w.heap.size A zs) :
    Calls Tryd.prog 22 #[.slice A zs.length cap] w fun e w' => ∃ v, e = .returned v ∧ OwnP w' w.heap.size v (places zs) ∧ Below w.heap.size w w' := by
  obtain ⟨i0, hi, hz0, hz1, hz2⟩ := info_parts infoPl
  have HI := Lib.hid (And.intro hi (And.intro hz0 (And.intro hz1 hz2)))
  have h2 := hs.1
  obtain ⟨b, off, rfl, hb, hcs⟩ := hr.at_ (by omega)
  have HZ := Lib.hid (show ∀ (k : Nat), k + 1 < zs.length → ∃ x y : Nat, zAt zs k = x ∧ zAt zs (k + 1) = y ∧ (zAt zs k).toNat = x ∧ (zAt zs (k + 1)).toNat = y ∧ (plcs zs k).length + (y * x + y) ≤ 1048576 ∧ x ≤ 1048576 ∧ y ≤ 1048576 ∧ (∀ W, Below w.heap.size w W → W.cell? ⟨b, off + k, none⟩ = some (.int .i64 (x : Int)) ∧ W.cell? ⟨b, off + (k + 1), none⟩ = some (.int .i64 (y : Int))) from fun k hk => by
    have h1 := zAt_ok hs (k := k) (by omega)
    have h2 := zAt_ok hs hk
    have hl := plcs_len hs k (by omega)
    have hl2 := plcs_len hs (k + 1) hk
    have hc := lo_cnt hs hk
    have hc2 := hs.2.2.2
    have hlen : (plcs zs (k + 1)).length = (plcs zs k).length + ((zAt zs (k + 1)).toNat * (zAt zs k).toNat + (zAt zs (k + 1)).toNat) := by
      simp only [plcs, List.length_append, block_len]
    refine ⟨(zAt zs k).toNat, (zAt zs (k + 1)).toNat, by omega, by omega, rfl, rfl, by omega, by omega, by omega, fun W hW => ⟨?_, ?_⟩⟩
    · rw [nat_of (by omega)]
      exact (hW.cell (p := ⟨b, off + k, none⟩) hb).trans (hcs k _ (zAt_get (by omega)))
    · rw [nat_of (by omega)]
      exact (hW.cell (p := ⟨b, off + (k + 1), none⟩) hb).trans (hcs (k + 1) _ (zAt_get hk)))
  have h16 : (zs.length : Int) ≤ 16 := by have := hs.2.1; omega
  have h2' : (2 : Int) ≤ (zs.length : Int) := by omega
  clear hs hr hcs hi hz0 hz1 hz2 h2
  go_enter Tryd.func22, Tryd.ntmps22
  go_wp2_with fail
  go_loopw [3, 4] (fun v i wr => ∃ k : Nat, k + 1 ≤ zs.length ∧ i = .int .i64 k ∧ Hid (OwnP wr w.heap.size v (plcs zs k)) ∧ Hid (Below w.heap.size w wr)) (fun _ i _ => zs.length - (intOf i).toNat)
  case atStart => exact ⟨0, by omega, rfl, Lib.hid (own_nil w _ _ 3), Lib.hid (Below.refl _ _)⟩
  case round =>
    obtain ⟨k, hk, rfl, HOk, HBk⟩ := hrel
    by_cases hlt : k + 1 < zs.length
    · obtain ⟨x, y, hx, hy, hx', hy', hbd, hx2, hy2, hcell⟩ := HZ.out k hlt
      have HCE := Lib.hid hcell
      have HXY := Lib.hid (And.intro hx' hy')
      have HPK := Lib.hid (show plcs zs (k + 1) = plcs zs k ++ rowsP k x y ++ biasP k y by simp only [plcs]; rw [hx', hy', block_parts, List.append_assoc])
      have hk1 : (k : Int) + 1 < (zs.length : Int) := by omega
      clear hcell hx hy hx' hy' HXY
      have HBD := Lib.hid hbd
      clear hbd
      have hx3 : (x : Int) ≤ 1048576 := by omega
      have hy3 : (y : Int) ≤ 1048576 := by omega
      go_wp2_with fail
      go_loopw [3, 5] (fun v i wr => ∃ r : Nat, r ≤ y ∧ i = .int .i64 r ∧ Hid (OwnP wr w.heap.size v (plcs zs k ++ rowsP k x r)) ∧ Hid (Below w.heap.size w wr)) (fun _ i _ => y - (intOf i).toNat)
      case atStart => exact ⟨0, Nat.zero_le _, rfl, Lib.hid (by simpa [rowsP] using HOk.out), HBk⟩
      case round =>
        obtain ⟨r, hr, rfl, HOr, HBr⟩ := hrel
        clear HOk HBk
        obtain ⟨c1, c2⟩ := HCE.out _ HBr.out
        by_cases hry : r < y
        · go_wp2_with fail
          clear c1 c2
          go_loopw [3, 6] (fun v i wr => ∃ c : Nat, c ≤ x ∧ i = .int .i64 c ∧ Hid (OwnP wr w.heap.size v (plcs zs k ++ rowsP k x r ++ colP k r c)) ∧ Hid (Below w.heap.size w wr)) (fun _ i _ => x - (intOf i).toNat)
          case atStart => exact ⟨0, Nat.zero_le _, rfl, Lib.hid (by simpa [colP] using HOr.out), HBr⟩
          case round =>
            obtain ⟨c, hc, rfl, HOc, HBc⟩ := hrel
            clear HOr HBr
            obtain ⟨c1, c2⟩ := HCE.out _ HBc.out
            by_cases hcx : c < x
            · have HLN := Lib.hid (show (plcs zs k ++ rowsP k x r ++ colP k r c).length + 1 ≤ 1048576 by
                have h1 := HBD.out
                have h2 : (r + 1) * x ≤ y * x := Nat.mul_le_mul_right _ hry
                rw [Nat.succ_mul] at h2
                simp only [List.length_append, rowsP_len, colP_len]
                omega)
              have HNX := Lib.hid (show plFlat (plcs zs k ++ rowsP k x r ++ colP k r (c + 1)) = plFlat (plcs zs k ++ rowsP k x r ++ colP k r c) ++ [.int .i64 (k : Int), .int .i64 (r : Int), .int .i64 (c : Int)] by
                rw [colP_succ, ← List.append_assoc, plFlat_snoc]; rfl)
              have HNL := Lib.hid (show (plcs zs k ++ rowsP k x r ++ colP k r (c + 1)).length = (plcs zs k ++ rowsP k x r ++ colP k r c).length + 1 by rw [colP_succ, ← List.append_assoc, List.length_append]; rfl)
              have HN := Lib.hid (heap_alloc_new wr (.cells #[.int .i64 (k : Int), .int .i64 (r : Int), .int .i64 (c : Int)] 49))
              have HO1 := Lib.hid (HOc.out.alloc (.cells #[.int .i64 (k : Int), .int .i64 (r : Int), .int .i64 (c : Int)] 49))
              have HB1 := Lib.hid (HBc.out.alloc HBc.out.size (.cells #[.int .i64 (k : Int), .int .i64 (r : Int), .int .i64 (c : Int)] 49))
              go_wp2_with (at_builtin; refine wpList_append_own _ rfl _ _ 41 rfl w.heap.size 49 i0 (.agg #[.int .i64 0, .int .i64 0, .int .i64 0]) 3 24 Tryd.underlying41 HI.out.1 HI.out.2.1 HI.out.2.2.1 HI.out.2.2.2 rfl (by decide) _ _ _ rfl HO1.out ⟨wr.heap.size, 0, none⟩ 1 1 [.int .i64 (k : Int), .int .i64 (r : Int), .int .i64 (c : Int)] rfl rfl ?c1 ?c2 ?c3 ?c4 ?c5 ?_)
              case c1 =>
                intro j u hj
                rw [add_none, Nat.zero_add, blk_cell HN.out]
                simpa using hj
              case c2 => intro u hu; simp at hu; rcases hu with rfl | rfl | rfl <;> rfl
              case c3 => have h := HLN.out; unfold maxLen; omega
              case c4 => have h := HLN.out; omega
              case c5 => have := HBc.out.size; simp; omega
              intro v' w2 hown' hgrow _
              have HB2 := Lib.hid (below_own HB1.out (Nat.le_refl _) (Nat.le_refl _) HO1.out hgrow)
              have HO2 := Lib.hid hown'
              clear hown' hgrow HB1 HO1 HN HOc HBc
              go_wp2_with fail
              go_roundw
              case rel => exact ⟨c + 1, by omega, by go_num, Lib.hid (by unfold OwnP; rw [HNX.out, HNL.out]; simpa [List.append_assoc, Nat.add_assoc] using HO2.out), HB2⟩
              case measure => simp [intOf]; omega
            · have hcx' : c = x := by omega
              subst hcx'
              have HOn := Lib.hid (show OwnP wr w.heap.size u3 (plcs zs k ++ rowsP k c (r + 1)) by
                rw [rowsP_succ, ← List.append_assoc]; exact HOc.out)
              have hcl : (c : Int) ≤ (c : Int) := Int.le_refl _
              clear HOc
              go_wp2_with fail
              go_roundw
              case rel => exact ⟨r + 1, by omega, by go_num, HOn, HBc⟩
              case measure => simp [intOf]; omega
        · have hry' : r = y := by omega
          subst hry'
          go_wp2_with fail
          clear c1 c2
          go_loopw [3, 7] (fun v i wr => ∃ q : Nat, q ≤ r ∧ i = .int .i64 q ∧ Hid (OwnP wr w.heap.size v (plcs zs k ++ rowsP k x r ++ biasP k q)) ∧ Hid (Below w.heap.size w wr)) (fun _ i _ => r - (intOf i).toNat)
          case atStart => exact ⟨0, Nat.zero_le _, rfl, Lib.hid (by simpa [biasP] using HOr.out), HBr⟩
          case round =>
            obtain ⟨q, hq, rfl, HOc, HBc⟩ := hrel
            clear HOr HBr
            obtain ⟨c1, c2⟩ := HCE.out _ HBc.out
            by_cases hqy : q < r
            · have HLN := Lib.hid (show (plcs zs k ++ rowsP k x r ++ biasP k q).length + 1 ≤ 1048576 by
                have h1 := HBD.out
                simp only [List.length_append, rowsP_len, biasP_len]
                omega)
              have HNX := Lib.hid (show plFlat (plcs zs k ++ rowsP k x r ++ biasP k (q + 1)) = plFlat (plcs zs k ++ rowsP k x r ++ biasP k q) ++ [.int .i64 (k : Int), .int .i64 (q : Int), .int .i64 (-1)] by
                rw [biasP_succ, ← List.append_assoc, plFlat_snoc]; rfl)
              have HNL := Lib.hid (show (plcs zs k ++ rowsP k x r ++ biasP k (q + 1)).length = (plcs zs k ++ rowsP k x r ++ biasP k q).length + 1 by rw [biasP_succ, ← List.append_assoc, List.length_append]; rfl)
              have HN := Lib.hid (heap_alloc_new wr (.cells #[.int .i64 (k : Int), .int .i64 (q : Int), .int .i64 (-1)] 49))
              have HO1 := Lib.hid (HOc.out.alloc (.cells #[.int .i64 (k : Int), .int .i64 (q : Int), .int .i64 (-1)] 49))
              have HB1 := Lib.hid (HBc.out.alloc HBc.out.size (.cells #[.int .i64 (k : Int), .int .i64 (q : Int), .int .i64 (-1)] 49))
              go_wp2_with (at_builtin; refine wpList_append_own _ rfl _ _ 41 rfl w.heap.size 49 i0 (.agg #[.int .i64 0, .int .i64 0, .int .i64 0]) 3 24 Tryd.underlying41 HI.out.1 HI.out.2.1 HI.out.2.2.1 HI.out.2.2.2 rfl (by decide) _ _ _ rfl HO1.out ⟨wr.heap.size, 0, none⟩ 1 1 [.int .i64 (k : Int), .int .i64 (q : Int), .int .i64 (-1)] rfl rfl ?c1 ?c2 ?c3 ?c4 ?c5 ?_)
              case c1 =>
                intro j u hj
                rw [add_none, Nat.zero_add, blk_cell HN.out]
                simpa using hj
              case c2 => intro u hu; simp at hu; rcases hu with rfl | rfl | rfl <;> rfl
              case c3 => have h := HLN.out; unfold maxLen; omega
              case c4 => have h := HLN.out; omega
              case c5 => have := HBc.out.size; simp; omega
              intro v' w2 hown' hgrow _
              have HB2 := Lib.hid (below_own HB1.out (Nat.le_refl _) (Nat.le_refl _) HO1.out hgrow)
              have HO2 := Lib.hid hown'
              clear hown' hgrow HB1 HO1 HN HOc HBc
              go_wp2_with fail
              go_roundw
              case rel => exact ⟨q + 1, by omega, by go_num, Lib.hid (by unfold OwnP; rw [HNX.out, HNL.out]; simpa [List.append_assoc, Nat.add_assoc] using HO2.out), HB2⟩
              case measure => simp [intOf]; omega
            · have hqr : q = r := by omega
              subst hqr
              have HOn := Lib.hid (show OwnP wr w.heap.size u3 (plcs zs (k + 1)) by rw [HPK.out]; exact HOc.out)
              have hql : (q : Int) ≤ (q : Int) := Int.le_refl _
              clear HOc
              go_wp2_with fail
              go_roundw
              case rel => exact ⟨k + 1, by omega, by go_num, HOn, HBc⟩
              case measure => simp [intOf]; omega
    · have hge : (zs.length : Int) ≤ (k : Int) + 1 := by omega
      have hkn : k = zs.length - 1 := by omega
      have HOn := Lib.hid (show OwnP wr w.heap.size u3 (places zs) by unfold places; rw [← hkn]; exact HOk.out)
      clear HOk hkn
      go_wp2_with fail
      go_ret
      exact ⟨_, rfl, HOn.out, HBk.out⟩

end Go.Proofs.YtjjoendjgiiknaaDoor
