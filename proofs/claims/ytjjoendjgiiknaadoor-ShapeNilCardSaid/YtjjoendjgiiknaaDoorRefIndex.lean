/- Walks: the reference's Index of a name. Conditions: none. -/
import Derived.Test.YtjjoendjgiiknaaDoorRefName
namespace Go.Proofs.YtjjoendjgiiknaaDoor
open Go.RowKit

theorem str_ne {s t : ByteArray} (h : s.data.toList ≠ t.data.toList) : (s.toList == t.toList) = false := beq_eq_false_iff_ne.2 fun e => h (by
  rw [Go.ByteArray.toList_eq, Go.ByteArray.toList_eq] at e
  exact e)
theorem str_eq {s t : ByteArray} (h : s.data.toList = t.data.toList) : s = t := by
  obtain ⟨a⟩ := s
  obtain ⟨b⟩ := t
  exact congrArg ByteArray.mk (Array.toList_inj.1 h)

set_option maxRecDepth 100000 in
set_option maxHeartbeats 2000000 in
theorem refIndex_any (A : Option Addr) (cap : Nat) (zs : List Int) (hs : ShOk zs) (nm : ByteArray) (w : World) (hr : RdI w w.heap.size A zs) :
    Calls Tryd.prog 27 #[.slice A zs.length cap, .string nm] w (IdxPost zs nm.data.toList w) := by
  have HP := Lib.hid (refPlaces_any A cap zs hs w hr)
  have hpl := places_len hs
  have hcn := hs.2.2.2
  have HN := Lib.hid (fun (i : Nat) (p : Pl) (h : (places zs)[i]? = some p) W => refName_any p (place_ok hs (places_get hs h)) W)
  obtain ⟨L, hL⟩ : ∃ L, places zs = L := ⟨_, rfl⟩
  have HNA := Lib.hid (show ∀ (i : Nat) (p : Pl), L[i]? = some p → (NamedAt zs nm.data.toList i ↔ nm.data.toList = nameL p) from fun i p h => by
    rw [← hL] at h
    constructor
    · rintro ⟨q, hq, e⟩
      rw [h] at hq
      injection hq with hq
      rw [hq]; exact e
    · intro e
      exact ⟨p, h, e⟩)
  have HNO := Lib.hid (show ∀ i : Nat, L.length ≤ i → ¬ NamedAt zs nm.data.toList i from fun i hi ⟨q, hq, _⟩ => by
    rw [hL] at hq
    have := (List.getElem?_eq_some_iff.1 hq).1
    omega)
  rw [hL] at HP hpl HN
  have hll : (L.length : Int) ≤ 1048576 := by omega
  clear hpl hcn hL hs hr
  go_enter Tryd.func27, Tryd.ntmps27
  go_wp2_with fail
  (with_reducible refine HP.out.mono ?_)
  rintro e w1 ⟨v, rfl, ho, hb⟩
  obtain ⟨Av, cv, rfl⟩ := own_slice ho
  have HO := Lib.hid ho
  have HB1 := Lib.hid hb
  clear ho hb HP
  go_wp2_with fail
  go_loopw [7] (fun i wr => ∃ k : Nat, k ≤ L.length ∧ i = .int .i64 k ∧ Hid (∀ j, j < k → ¬ NamedAt zs nm.data.toList j) ∧ Hid (Below w1.heap.size w1 wr)) (fun i _ => L.length - (intOf i).toNat)
  case atStart => exact ⟨0, Nat.zero_le _, rfl, Lib.hid fun j h => absurd h (Nat.not_lt_zero _), Lib.hid (Below.refl _ _)⟩
  case round =>
    obtain ⟨k, hk, rfl, HX, HBk⟩ := hrel
    by_cases hlt : k < L.length
    · obtain ⟨p, hp⟩ := get_some L k hlt
      obtain ⟨g, rfl, hg, hcs⟩ := ownP_cells HO.out (by omega)
      obtain ⟨f1, f2, f3⟩ := hcs k p hp
      have c1 := (HBk.out.cell (p := ⟨g, k * 3, none⟩) hg).trans f1
      have c2 := (HBk.out.cell (p := ⟨g, k * 3 + 1, none⟩) hg).trans f2
      have c3 := (HBk.out.cell (p := ⟨g, k * 3 + 2, none⟩) hg).trans f3
      have HNk := Lib.hid (HN.out k p hp wr)
      have HIF := Lib.hid (HNA.out k p hp)
      have hkk : (k : Int) < (L.length : Int) := by omega
      obtain ⟨s, hs⟩ : ∃ s : ByteArray, ⟨(nameL p).toArray⟩ = s := ⟨_, rfl⟩
      rw [hs] at HNk
      have hsd : s.data.toList = nameL p := by rw [← hs]
      clear f1 f2 f3 hcs hp
      by_cases he : nm.data.toList = nameL p
      · have HA := Lib.hid (HIF.out.2 he)
        obtain rfl := str_eq (hsd.trans he.symm)
        clear he hsd hs
        go_wp2_with fail
        (with_reducible refine HNk.out.mono ?_)
        rintro e w2 ⟨rfl, hb⟩
        have HB2 := Lib.hid (HB1.out.trans ((HBk.out.trans (hb.mono HBk.out.size)).mono HB1.out.size))
        clear hb
        go_wp2_with fail
        go_ret2
        exact ⟨.inl ⟨k, HA.out, rfl⟩, HB2.out⟩
      · have hne : (s.toList == nm.toList) = false := str_ne (by rw [hsd]; exact fun e => he e.symm)
        have HXN := Lib.hid (show ∀ j, j < k + 1 → ¬ NamedAt zs nm.data.toList j from fun j hj => by
          rcases Nat.lt_or_ge j k with h1 | h1
          · exact HX.out j h1
          · obtain rfl : j = k := by omega
            exact fun h => he (HIF.out.1 h))
        clear he hsd hs
        go_wp2_with fail
        (with_reducible refine HNk.out.mono ?_)
        rintro e w2 ⟨rfl, hb⟩
        have HB2 := Lib.hid (HBk.out.trans (hb.mono HBk.out.size))
        clear hb
        go_wp2_with fail
        go_roundw
        case rel => exact ⟨k + 1, by omega, by go_num, HXN, HB2⟩
        case measure => simp [intOf]; omega
    · have hge : L.length ≤ k := by omega
      have HB2 := Lib.hid (HB1.out.trans (HBk.out.mono HB1.out.size))
      have HXA := Lib.hid (show ∀ j, ¬ NamedAt zs nm.data.toList j from fun j => by
        rcases Nat.lt_or_ge j k with h1 | h1
        · exact HX.out j h1
        · exact HNO.out j (by omega))
      go_wp2_with fail
      go_ret2
      exact ⟨.inr ⟨HXA.out, rfl⟩, HB2.out⟩

end Go.Proofs.YtjjoendjgiiknaaDoor
