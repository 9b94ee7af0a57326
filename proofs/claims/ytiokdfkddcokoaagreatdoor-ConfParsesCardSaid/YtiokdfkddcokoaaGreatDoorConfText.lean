/- Walk: conf.Text. Conditions: the table of powers of ten reads as listed. -/
import Derived.Test.YtiokdfkddcokoaaGreatDoorConfTextP
import Derived.Test.YtiokdfkddcokoaaGreatDoorConfFields
namespace Go.Proofs.YtiokdfkddcokoaaGreatDoor
open Go.RowKit

/-- What Text returns. -/
def cfTextS (zs : List Int) (c : Cf) : List UInt8 := if cfB zs c then cfText zs c else []

theorem ok_all {zs : List Int} {c : Cf} (h : ∀ j, j < 12 → okK zs c j = true) : cfB zs c = true := by
  unfold cfB
  rw [List.all_eq_true]
  intro k hk
  exact h k (by simpa using hk)
theorem ok_not {zs : List Int} {c : Cf} {j : Nat} (hj : j < 12) (h : okK zs c j = false) : cfB zs c = false := by
  cases hb : cfB zs c
  · rfl
  · unfold cfB at hb
    rw [List.all_eq_true] at hb
    rw [hb j (by simpa using hj)] at h
    cases h

theorem cf_len (zs : List Int) (c : Cf) (h64 : Cf64 zs c) (hl : zs.length ≤ 1000) (hsh : 0 ≤ c.sh ∧ c.sh ≤ 62) : (cfText zs c).length ≤ 1000000 := by
  have h1 := sz_len zs h64.1
  have hI : ∀ k, (Lib.itoa (numK c k)).length ≤ 21 := fun k => itoa_len (h64.2 k)
  have hD : ∀ k, (decText (numK c k) c.sh.toNat).length ≤ 100 := fun k => decText_len _ _ (by omega) (h64.2 k)
  have := join_le 32 22000 (cfWords zs c) fun y hy => by
    simp only [cfWords, List.mem_cons, List.not_mem_nil, or_false] at hy
    rcases hy with rfl | rfl | rfl | rfl | rfl | rfl | rfl | rfl | rfl | rfl | rfl | rfl | rfl | rfl | rfl | rfl | rfl | rfl | rfl | rfl | rfl | rfl | rfl | rfl
    · decide
    · omega
    · decide
    · have := hI 1; simp only [numK] at this; omega
    · decide
    · have := hD 2; simp only [numK] at this; omega
    · decide
    · have := hD 3; simp only [numK] at this; omega
    · decide
    · have := hI 4; simp only [numK] at this; omega
    · decide
    · have := hI 5; simp only [numK] at this; omega
    · decide
    · have := hI 6; simp only [numK] at this; omega
    · decide
    · have := hI 7; simp only [numK] at this; omega
    · decide
    · have := hI 8; simp only [numK] at this; omega
    · decide
    · have := hI 9; simp only [numK] at this; omega
    · decide
    · have := hI 10; simp only [numK] at this; omega
    · decide
    · have := hI 11; simp only [numK] at this; omega
  exact Nat.le_trans this (by show 22001 * 24 ≤ _; decide)

set_option maxRecDepth 100000 in
set_option maxHeartbeats 8000000 in
theorem confText_any (A : Option Addr) (cap : Nat) (zs : List Int) (c : Cf) (h64 : Cf64 zs c) (hl : zs.length ≤ 1000) (B : Nat) (w : World) (hp : Pow B w) (hB : B ≤ w.heap.size) (hr : RdI w w.heap.size A zs) :
    Calls Tryz.prog 7 #[.agg (cfCells A zs.length cap c)] w fun e w' => e = .returned (.tuple #[.string ⟨(cfTextS zs c).toArray⟩, .bool (cfB zs c)]) ∧ Below w.heap.size w w' := by
  obtain ⟨i0, hi, hz0, hz1, hz2⟩ := info_parts infoStr
  have HI := Lib.hid (And.intro hi (And.intro hz0 (And.intro hz1 hz2)))
  have hb0 := (Below.refl w.heap.size w).alloc (Nat.le_refl _) (.cells (cfCells A zs.length cap c) 24)
  have HX := Lib.hid (show CfAt (w.alloc (.cells (cfCells A zs.length cap c) 24)) w.heap.size A cap zs c from ⟨heap_alloc_new w _, (hr.below hb0).more hb0.size⟩)
  have HF := Lib.hid (fields_any w.heap.size (w.alloc (.cells (cfCells A zs.length cap c) 24)) (by simp))
  have HB0 := Lib.hid hb0
  have H64 := Lib.hid h64
  have HL := Lib.hid hl
  have HP := Lib.hid (fun W (hb : Below w.heap.size w W) => And.intro (hp.on (hb.mono hB)) (Nat.le_trans hB hb.size))
  have HE := Lib.hid (show cfTextS zs c = if cfB zs c then cfText zs c else [] from rfl)
  clear hi hz0 hz1 hz2 hb0 h64 hl hp hB hr
  generalize cfTextS zs c = TS at HE ⊢
  unfold cfCells at HF HX HB0 ⊢
  go_enter Tryz.func7, Tryz.ntmps7
  go_wp2_with fail
  (with_reducible refine HF.out.mono ?_)
  rintro e w1 ⟨L, rfl, hL, hF, hb⟩
  have HB1 := Lib.hid (HB0.out.trans (hb.mono HB0.out.size))
  have HX1 := Lib.hid (HX.out.below hb)
  have HF1 := Lib.hid hF
  have HL12 := Lib.hid hL
  have HIX := Lib.hid (fun (k : Nat) (l : List Value) (h : L[k]? = some l) => idx_field L hL (fun x hx => by
    obtain ⟨j, hj⟩ := List.getElem?_of_mem hx
    exact (hF j x hj).len) k l h)
  clear hL hF hb HF HX HB0
  generalize Value.agg L.flatten.toArray = V at HIX ⊢
  have HW := Lib.hid (fun (wr : World) (k : Nat) (hk : k < 12) (hb : Below w1.heap.size w1 wr) (hall : ∀ j, j < k → okK zs c j = true) => show ∃ l, L[k]? = some l ∧ _ from by
    obtain ⟨l, hl⟩ := get_some L k (by rw [HL12.out]; exact hk)
    obtain ⟨p1, p2⟩ := HP.out wr (HB1.out.trans (hb.mono HB1.out.size))
    exact ⟨l, hl, fld_write ((HF1.out k l hl).below hb) (HX1.out.below hb) H64.out HL.out p1 p2 (fun h1 => of_decide_eq_true (hall 1 h1))⟩)
  clear HP HF1 HX1
  go_wp2_with fail
  go_loopw [4, 10] (fun v i wr => ∃ k : Nat, k ≤ 12 ∧ i = .int .i64 k ∧ Hid (∀ j, j < k → okK zs c j = true) ∧ Hid (wr.ownsRow w1.heap.size 9 1 v (2 * k) (((cfBs zs c).map Value.string).take (2 * k))) ∧ Hid (Below w1.heap.size w1 wr)) (fun _ i _ => 12 - (intOf i).toNat)
  case atStart => exact ⟨0, by decide, rfl, Lib.hid (fun j hj => absurd hj (Nat.not_lt_zero j)), Lib.hid (own_nil _ _ _ _), Lib.hid (Below.refl _ _)⟩
  case round =>
    obtain ⟨k, hk, rfl, HA, HOk, HBk⟩ := hrel
    by_cases hlt : k < 12
    · obtain ⟨l, hl, hfw⟩ := HW.out wr k hlt HBk.out HA.out
      have hix := HIX.out k l hl
      have HTK := Lib.hid (take_words zs c k hlt)
      obtain ⟨nm, hnm⟩ : ∃ nm, nameK k = nm := ⟨_, rfl⟩
      obtain ⟨tx, htx⟩ : ∃ tx : ByteArray, ⟨(txtK zs c k).toArray⟩ = tx := ⟨_, rfl⟩
      obtain ⟨ok, hok⟩ : ∃ ok, okK zs c k = ok := ⟨_, rfl⟩
      unfold Writes at hfw
      rw [hnm, htx] at HTK
      rw [hnm, htx, hok] at hfw
      have HOKK := Lib.hid hok
      have HLT := Lib.hid hlt
      have k0 : (0 : Int) ≤ (k : Int) := by omega
      have k1 : (k : Int) < 12 := by omega
      clear hnm htx hl hok HW HIX
      rcases hfw with ⟨b, rfl, hw⟩ | ⟨b1, b2, rfl, hw⟩ | ⟨b1, b2, rfl, ho, hw⟩
      · have HWR := Lib.hid hw
        clear hw
        cases ok
        · as_aux_lemma =>
            go_wp2_with fail
            (with_reducible refine (HWR.out _ ((Below.refl wr.heap.size wr).alloc (Nat.le_refl _) _)).mono ?_)
            rintro e w2 ⟨rfl, hb⟩
            have HB2 := Lib.hid (HB1.out.trans (((HBk.out.alloc HBk.out.size _).trans (hb.mono (by have := HBk.out.size; simp; omega))).mono HB1.out.size))
            clear hb
            go_wp2_with fail
            go_ret2
            refine ⟨?_, HB2.out⟩
            have hn := ok_not HLT.out HOKK.out
            rw [HE.out, hn]
            rfl
        · as_aux_lemma =>
            go_wp2_with fail
            (with_reducible refine (HWR.out _ ((Below.refl wr.heap.size wr).alloc (Nat.le_refl _) _)).mono ?_)
            rintro e w2 ⟨rfl, hb⟩
            have hg := blk_below (heap_alloc_new wr _) hb (by simp)
            have cn := blk_cell hg 0
            have HB2 := Lib.hid ((HBk.out.alloc HBk.out.size _).trans (hb.mono (by have := HBk.out.size; simp; omega)))
            have HO2 := Lib.hid (own_below (HOk.out.alloc _) hb)
            clear hb hg HBk HOk HWR hix
            go_wp2_with (at_builtin; refine wpList_append_own _ rfl _ _ 35 rfl w1.heap.size 9 i0 (.string ByteArray.empty) 1 16 Tryz.underlying35 HI.out.1 HI.out.2.1 HI.out.2.2.1 HI.out.2.2.2 rfl (by decide) _ _ _ rfl (HO2.out.alloc _) ⟨w2.heap.size, 0, none⟩ 2 2 [.string nm, .string tx] rfl rfl (fun j u hj => by
              match j, hj with
              | 0, hj => simp at hj; subst hj; simp [Addr.add]
              | 1, hj => simp at hj; subst hj; simp [Addr.add]) (fun u hu => by simp at hu; rcases hu with rfl | rfl <;> rfl) (by unfold maxLen; omega) (by omega) (by have := HB2.out.size; simp; omega) ?_; intro v' w3 hown' hgrow _)
            have HB3 := Lib.hid (below_own (HB2.out.alloc HB2.out.size _) (Nat.le_refl _) (Nat.le_refl _) (HO2.out.alloc _) hgrow)
            have HO3 := Lib.hid hown'
            clear hown' hgrow HB2 HO2
            go_wp2_with fail
            go_roundw
            case rel => exact ⟨k + 1, by omega, by go_num, Lib.hid (fun j hj => by
              rcases Nat.lt_succ_iff_lt_or_eq.1 hj with h | rfl
              · exact HA.out j h
              · exact HOKK.out), Lib.hid (by rw [HTK.out]; exact HO3.out), HB3⟩
            case measure => simp [intOf]; omega
      · have HWR := Lib.hid hw
        clear hw
        unfold decF at hix
        cases ok
        · as_aux_lemma =>
            go_wp2_with fail
            (with_reducible refine (HWR.out _ ((Below.refl wr.heap.size wr).alloc (Nat.le_refl _) _)).mono ?_)
            rintro e w2 ⟨rfl, hb⟩
            have HB2 := Lib.hid (HB1.out.trans (((HBk.out.alloc HBk.out.size _).trans (hb.mono (by have := HBk.out.size; simp; omega))).mono HB1.out.size))
            clear hb
            go_wp2_with fail
            go_ret2
            refine ⟨?_, HB2.out⟩
            have hn := ok_not HLT.out HOKK.out
            rw [HE.out, hn]
            rfl
        · as_aux_lemma =>
            go_wp2_with fail
            (with_reducible refine (HWR.out _ ((Below.refl wr.heap.size wr).alloc (Nat.le_refl _) _)).mono ?_)
            rintro e w2 ⟨rfl, hb⟩
            have hg := blk_below (heap_alloc_new wr _) hb (by simp)
            have cn := blk_cell hg 0
            have HB2 := Lib.hid ((HBk.out.alloc HBk.out.size _).trans (hb.mono (by have := HBk.out.size; simp; omega)))
            have HO2 := Lib.hid (own_below (HOk.out.alloc _) hb)
            clear hb hg HBk HOk HWR hix
            go_wp2_with (at_builtin; refine wpList_append_own _ rfl _ _ 35 rfl w1.heap.size 9 i0 (.string ByteArray.empty) 1 16 Tryz.underlying35 HI.out.1 HI.out.2.1 HI.out.2.2.1 HI.out.2.2.2 rfl (by decide) _ _ _ rfl (HO2.out.alloc _) ⟨w2.heap.size, 0, none⟩ 2 2 [.string nm, .string tx] rfl rfl (fun j u hj => by
              match j, hj with
              | 0, hj => simp at hj; subst hj; simp [Addr.add]
              | 1, hj => simp at hj; subst hj; simp [Addr.add]) (fun u hu => by simp at hu; rcases hu with rfl | rfl <;> rfl) (by unfold maxLen; omega) (by omega) (by have := HB2.out.size; simp; omega) ?_; intro v' w3 hown' hgrow _)
            have HB3 := Lib.hid (below_own (HB2.out.alloc HB2.out.size _) (Nat.le_refl _) (Nat.le_refl _) (HO2.out.alloc _) hgrow)
            have HO3 := Lib.hid hown'
            clear hown' hgrow HB2 HO2
            go_wp2_with fail
            go_roundw
            case rel => exact ⟨k + 1, by omega, by go_num, Lib.hid (fun j hj => by
              rcases Nat.lt_succ_iff_lt_or_eq.1 hj with h | rfl
              · exact HA.out j h
              · exact HOKK.out), Lib.hid (by rw [HTK.out]; exact HO3.out), HB3⟩
            case measure => simp [intOf]; omega
      · subst ho
        have HWR := Lib.hid hw
        clear hw
        unfold fraF at hix
        as_aux_lemma =>
          go_wp2_with fail
          (with_reducible refine (HWR.out _ ((Below.refl wr.heap.size wr).alloc (Nat.le_refl _) _)).mono ?_)
          rintro e w2 ⟨rfl, hb⟩
          have hg := blk_below (heap_alloc_new wr _) hb (by simp)
          have cn := blk_cell hg 0
          have HB2 := Lib.hid ((HBk.out.alloc HBk.out.size _).trans (hb.mono (by have := HBk.out.size; simp; omega)))
          have HO2 := Lib.hid (own_below (HOk.out.alloc _) hb)
          clear hb hg HBk HOk HWR hix
          go_wp2_with (at_builtin; refine wpList_append_own _ rfl _ _ 35 rfl w1.heap.size 9 i0 (.string ByteArray.empty) 1 16 Tryz.underlying35 HI.out.1 HI.out.2.1 HI.out.2.2.1 HI.out.2.2.2 rfl (by decide) _ _ _ rfl (HO2.out.alloc _) ⟨w2.heap.size, 0, none⟩ 2 2 [.string nm, .string tx] rfl rfl (fun j u hj => by
            match j, hj with
            | 0, hj => simp at hj; subst hj; simp [Addr.add]
            | 1, hj => simp at hj; subst hj; simp [Addr.add]) (fun u hu => by simp at hu; rcases hu with rfl | rfl <;> rfl) (by unfold maxLen; omega) (by omega) (by have := HB2.out.size; simp; omega) ?_; intro v' w3 hown' hgrow _)
          have HB3 := Lib.hid (below_own (HB2.out.alloc HB2.out.size _) (Nat.le_refl _) (Nat.le_refl _) (HO2.out.alloc _) hgrow)
          have HO3 := Lib.hid hown'
          clear hown' hgrow HB2 HO2
          go_wp2_with fail
          go_roundw
          case rel => exact ⟨k + 1, by omega, by go_num, Lib.hid (fun j hj => by
            rcases Nat.lt_succ_iff_lt_or_eq.1 hj with h | rfl
            · exact HA.out j h
            · exact HOKK.out), Lib.hid (by rw [HTK.out]; exact HO3.out), HB3⟩
          case measure => simp [intOf]; omega
    · have hke : k = 12 := by omega
      subst hke
      have hb : cfB zs c = true := ok_all HA.out
      have HBT := Lib.hid hb
      rw [hb] at HE
      have hE : TS = cfText zs c := by rw [HE.out, if_pos rfl]
      have hO := HOk.out
      have hxl : (cfBs zs c).length = 24 := rfl
      rw [List.take_of_length_le (by rw [List.length_map, hxl]; decide), show 2 * 12 = (cfBs zs c).length from rfl] at hO
      have hdt : (cfBs zs c).map (·.data.toList) = cfWords zs c := by unfold cfBs; rw [List.map_map]; exact List.map_id' _
      have hjn : Lib.join ((cfBs zs c).map (·.data.toList)) (⟨#[32]⟩ : ByteArray).data.toList = cfText zs c := by rw [hdt]; rfl
      have hsl := cf_len zs c H64.out HL.out (of_decide_eq_true (HA.out 1 (by decide)))
      have HJ := Lib.hid (join_own _ (cfBs zs c) ⟨#[32]⟩ _ _ hO (by rw [hxl]; decide) (by rw [hjn]; omega))
      rw [hjn, ← hE] at HJ
      have HB2 := Lib.hid (HB1.out.trans (HBk.out.mono HB1.out.size))
      clear hO hxl hdt hjn hsl hb hE HE HW HIX HOk HBk
      go_wp2_with fail
      (with_reducible refine HJ.out.mono ?_)
      rintro e w9 ⟨rfl, hb9⟩
      have HB9 := Lib.hid (HB2.out.trans (hb9.mono HB2.out.size))
      clear hb9
      go_wp2_with fail
      go_ret2
      exact ⟨by rw [HBT.out]; rfl, HB9.out⟩

end Go.Proofs.YtiokdfkddcokoaaGreatDoor
