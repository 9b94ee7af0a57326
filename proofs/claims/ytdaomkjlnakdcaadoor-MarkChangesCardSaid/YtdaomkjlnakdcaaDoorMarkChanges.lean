/- Walks: MarkChanges. Conditions: the table of powers of ten reads as listed. -/
import Derived.Test.YtdaomkjlnakdcaaDoorMarkJoins
namespace Go.Proofs.YtdaomkjlnakdcaaDoor
open Go.RowKit

set_option maxHeartbeats 400000 in
theorem changes_far (A : Option Addr) (cap : Nat) (zs : List Int) (at_ ch : Int) (w : World) (hp : Pow w.heap.size w)
    (h : ¬ fewSum [(A, zs.length, cap)] ≤ 1500 ∨ (fewSum [(A, zs.length, cap)] ≤ 1500 ∧ (zs.length = 0 ∨ (0 < zs.length ∧ ch = 0)))) :
    Calls Tryd.prog 5 #[.slice A zs.length cap, .int .u16 at_, .int .u16 ch] w fun e w' => e = .returned (.bool true) ∧ Below w.heap.size w w' := by
  have hb0 : Below w.heap.size w (w.alloc (.cells #[.slice A zs.length cap] 22)) := (Below.refl _ _).alloc (Nat.le_refl _) _
  have C0 : Calls Tryd.prog 23 #[.slice (some ⟨w.heap.size, 0, none⟩) 1 1] (w.alloc (.cells #[.slice A zs.length cap] 22)) _ := few_block w [(A, zs.length, cap)] 22 (by simp)
  have HB0 := Lib.hid hb0
  have C1 := Lib.hid (fun W (hb : Below w.heap.size w W) => alive_any w.heap.size W (hp.on hb) hb.size)
  clear hp hb0
  rcases h with hf | ⟨hf, h0 | ⟨h0, rfl⟩⟩
  · rw [decide_eq_false hf] at C0
    have H0 := Lib.hid C0
    clear C0 hf
    go_enter Tryd.func5, Tryd.ntmps5
    go_wp2_with fail
    (with_reducible refine H0.out.mono ?_)
    rintro e w1 ⟨rfl, rfl⟩
    go_wp2_with fail
    (with_reducible refine (C1.out _ HB0.out).mono ?_)
    rintro e w1 ⟨rfl, hb1⟩
    have HB1 := Lib.hid (HB0.out.trans (hb1.mono HB0.out.size))
    clear hb1
    go_wp2
    go_ret
    exact ⟨rfl, HB1.out⟩
  · rw [decide_eq_true hf] at C0
    have H0 := Lib.hid C0
    clear C0 hf
    have d0 : ((zs.length : Int) == 0) = true := by simp [h0]
    clear h0
    go_enter Tryd.func5, Tryd.ntmps5
    go_wp2_with fail
    (with_reducible refine H0.out.mono ?_)
    rintro e w1 ⟨rfl, rfl⟩
    go_wp2_with fail
    (with_reducible refine (C1.out _ HB0.out).mono ?_)
    rintro e w1 ⟨rfl, hb1⟩
    have HB1 := Lib.hid (HB0.out.trans (hb1.mono HB0.out.size))
    clear hb1
    go_wp2
    go_ret
    exact ⟨rfl, HB1.out⟩
  · rw [decide_eq_true hf] at C0
    have H0 := Lib.hid C0
    clear C0 hf
    have d0 : ((zs.length : Int) == 0) = false := by simp; intro h; simp [h] at h0
    clear h0
    go_enter Tryd.func5, Tryd.ntmps5
    go_wp2_with fail
    (with_reducible refine H0.out.mono ?_)
    rintro e w1 ⟨rfl, rfl⟩
    go_wp2_with fail
    (with_reducible refine (C1.out _ HB0.out).mono ?_)
    rintro e w1 ⟨rfl, hb1⟩
    have HB1 := Lib.hid (HB0.out.trans (hb1.mono HB0.out.size))
    clear hb1
    go_wp2
    go_ret
    exact ⟨rfl, HB1.out⟩

set_option maxHeartbeats 1000000 in
theorem changes_near (A : Option Addr) (cap : Nat) (zs : List Int) (at_ ch : Int) (w : World) (hp : Pow w.heap.size w) (hr : RdI w w.heap.size A zs)
    (hf : fewSum [(A, zs.length, cap)] ≤ 1500) (h0 : 0 < zs.length) (ha : 0 ≤ at_ ∧ at_ ≤ 65535) (hc : 0 < ch ∧ ch ≤ 65535) :
    Calls Tryd.prog 5 #[.slice A zs.length cap, .int .u16 at_, .int .u16 ch] w fun e w' => e = .returned (.bool true) ∧ Below w.heap.size w w' := by
  have hb0 : Below w.heap.size w (w.alloc (.cells #[.slice A zs.length cap] 22)) := (Below.refl _ _).alloc (Nat.le_refl _) _
  have C0 : Calls Tryd.prog 23 #[.slice (some ⟨w.heap.size, 0, none⟩) 1 1] (w.alloc (.cells #[.slice A zs.length cap] 22)) _ := few_block w [(A, zs.length, cap)] 22 (by simp)
  have HB0 := Lib.hid hb0
  have HR := Lib.hid hr
  have C1 := Lib.hid (fun W (hb : Below w.heap.size w W) => alive_any w.heap.size W (hp.on hb) hb.size)
  rw [decide_eq_true hf] at C0
  have H0 := Lib.hid C0
  have hz : zs.length ≤ 1500 := by simp only [fewSum] at hf; omega
  have d0 : ((zs.length : Int) == 0) = false := by simp; intro h; simp [h] at h0
  have d1 : (ch == 0) = false := by simp; omega
  obtain ⟨k, hk⟩ : ∃ k : Nat, (at_ % (zs.length : Int)).toNat = k := ⟨_, rfl⟩
  have hm1 : 0 ≤ at_ % (zs.length : Int) := Int.emod_nonneg at_ (by omega)
  have hm2 : at_ % (zs.length : Int) < (zs.length : Int) := Int.emod_lt_of_pos at_ (by omega)
  have hkl : k < zs.length := by omega
  obtain ⟨x, hx⟩ := get_some zs k hkl
  have HZ := Lib.hid (And.intro hz (And.intro hkl (And.intro hx (And.intro hc h0))))
  obtain ⟨ha1, ha2⟩ := ha
  have hw1 : IntKind.i64.wrap at_ = at_ := IntWalk.i64_in _ (by omega)
  have hw2 : IntKind.i64.wrap ch = ch := IntWalk.i64_in _ (by omega)
  have HK := Lib.hid hk
  clear hp hr hb0 C0 hf hz hx h0 hc hk hkl
  go_enter Tryd.func5, Tryd.ntmps5
  go_wp2_with fail
  (with_reducible refine H0.out.mono ?_)
  rintro e w1 ⟨rfl, rfl⟩
  clear H0
  go_wp2_with fail
  (with_reducible refine (clone_any A cap zs _ ((HR.out.below HB0.out).more HB0.out.size) (by have := HZ.out; omega)).mono ?_)
  rintro e w2 ⟨v, rfl, ho, hb⟩
  have HB2 := Lib.hid (HB0.out.trans (hb.mono HB0.out.size))
  clear hb
  obtain ⟨g, c, hv, hg1, hg2⟩ := ho.form (by have := HZ.out; omega)
  subst hv
  have hcell := ho.cellAt k (by have := HZ.out; omega)
  rw [show (zs.map (Value.int .i64))[k]? = some (.int .i64 x) by have := HZ.out.2.2.1; simp [this]] at hcell
  have hfz := ho.frozenAt k
  have HO := Lib.hid ho
  rw [← HK.out] at hcell hfz
  clear ho
  go_wp2_with fail
  have hst := HO.out.stored (at_ % (zs.length : Int)).toNat (.int .i64 (wrap64 (x + ch)))
  rw [← List.map_set] at hst
  obtain ⟨qs, hqs⟩ : ∃ qs, qs = zs.set (at_ % (zs.length : Int)).toNat (wrap64 (x + ch)) := ⟨_, rfl⟩
  rw [← hqs] at hst
  have hql : qs.length = zs.length := by rw [hqs]; simp
  have hne := of_other zs (at_ % (zs.length : Int)).toNat x ch (by rw [HK.out]; exact HZ.out.2.2.1) (by have := HZ.out; omega) (by have := HZ.out; omega)
  rw [← hqs] at hne
  have HNE := Lib.hid hne
  have hgw : w.heap.size ≤ g := by simp at hg1; omega
  have HB3 := Lib.hid (HB2.out.setCell (p := ⟨g, (at_ % (zs.length : Int)).toNat, none⟩) hgw (.int .i64 (wrap64 (x + ch))))
  have hr3 : RdI _ _ _ qs := rd_of_own hst.1
  have HR3 := Lib.hid hr3
  have HL := Lib.hid hql
  clear hcell hfz hst hqs hql hne hr3 hg1 hg2
  (with_reducible refine (C1.out _ HB3.out).mono ?_)
  rintro e w4 ⟨rfl, hb4⟩
  have HB4 := Lib.hid (HB3.out.trans (hb4.mono HB3.out.size))
  have HR4 := Lib.hid (HR3.out.below hb4)
  have HS4 := Lib.hid hb4.size
  have hE := HR4.out.more HS4.out
  have C5 := markOf_any (some ⟨g, 0, none⟩) c qs _ hE (by have := HL.out; have := HZ.out; omega)
  rw [HL.out] at C5
  have H5 := Lib.hid C5
  clear hb4 hE C5
  go_wp2_with fail
  (with_reducible refine H5.out.mono ?_)
  rintro e w5 ⟨⟨a, b, rfl, ha, hb⟩, hb5⟩
  have HA := Lib.hid (And.intro ha hb)
  have HB5 := Lib.hid (HB4.out.trans (hb5.mono HB4.out.size))
  have HR5 := Lib.hid (HR4.out.below (hb5.mono HS4.out))
  have HS5 := Lib.hid (Nat.le_trans HS4.out hb5.size)
  have H6 := Lib.hid (markOf_any A cap zs _ ((HR.out.below HB5.out).more HB5.out.size) (by have := HZ.out; omega))
  clear ha hb hb5 H5
  go_wp2_with fail
  (with_reducible refine H6.out.mono ?_)
  rintro e w6 ⟨⟨a6, b6, rfl, ha, hb⟩, hb6⟩
  have q1 := feq_int HA.out.1 ha
  have q2 := feq_int HA.out.2 hb
  have HB6 := Lib.hid (HB5.out.trans (hb6.mono HB5.out.size))
  have HR6 := Lib.hid (HR5.out.below (hb6.mono HS5.out))
  have HS6 := Lib.hid (Nat.le_trans HS5.out hb6.size)
  have hE := HR6.out.more HS6.out
  have C7 := markOf_any (some ⟨g, 0, none⟩) c qs _ hE (by have := HL.out; have := HZ.out; omega)
  rw [HL.out] at C7
  have H7 := Lib.hid C7
  have hq : (FloatKind.f64.format.order a a6 == some .eq && FloatKind.f64.format.order b b6 == some .eq) = false := by
    rw [q1, q2, ← Bool.decide_and]
    exact decide_eq_false HNE.out
  clear q1 q2 ha hb hb6 hE C7 H6
  go_wp2_with fail
  (with_reducible refine H7.out.mono ?_)
  rintro e w7 ⟨⟨a7, b7, rfl, ha, hb⟩, hb7⟩
  have HA7 := Lib.hid (And.intro ha hb)
  have HB7 := Lib.hid (HB6.out.trans (hb7.mono HB6.out.size))
  have HR7 := Lib.hid (HR6.out.below (hb7.mono HS6.out))
  have HS7 := Lib.hid (Nat.le_trans HS6.out hb7.size)
  have hE := HR7.out.more HS7.out
  have C8 := refOf_any (some ⟨g, 0, none⟩) c qs _ hE (by have := HL.out; have := HZ.out; omega)
  rw [HL.out] at C8
  have H8 := Lib.hid C8
  clear ha hb hb7 hE C8 H7 hq
  go_wp2_with fail
  (with_reducible refine H8.out.mono ?_)
  rintro e w8 ⟨rfl, hb8⟩
  have HB8 := Lib.hid (HB7.out.trans (hb8.mono HB7.out.size))
  have bd := of_bd qs 0
  have C9 := Lib.hid (given_any (ofRe 0 qs) (ofIm 0 qs) w8 (by have := HL.out; have := HZ.out; omega) (by have := HL.out; have := HZ.out; omega))
  clear hb8 bd H8
  go_wp2_with fail
  (with_reducible refine C9.out.mono ?_)
  rintro e w9 ⟨c9, d9, rfl, hc, hd, hb9⟩
  have q3 := (feq_int HA7.out.1 hc).trans (decide_eq_true rfl)
  have q4 := (feq_int HA7.out.2 hd).trans (decide_eq_true rfl)
  have HB9 := Lib.hid (HB8.out.trans (hb9.mono HB8.out.size))
  clear hc hd hb9 C9
  go_wp2
  go_ret
  exact ⟨rfl, HB9.out⟩

theorem markChanges_any (A : Option Addr) (cap : Nat) (zs : List Int) (at_ ch : Int) (w : World) (hp : Pow w.heap.size w) (hr : RdI w w.heap.size A zs) (ha : 0 ≤ at_ ∧ at_ ≤ 65535) (hc : 0 ≤ ch ∧ ch ≤ 65535) :
    Calls Tryd.prog 5 #[.slice A zs.length cap, .int .u16 at_, .int .u16 ch] w fun e w' => e = .returned (.bool true) ∧ Below w.heap.size w w' := by
  by_cases hf : fewSum [(A, zs.length, cap)] ≤ 1500
  · by_cases h0 : zs.length = 0
    · exact changes_far A cap zs at_ ch w hp (.inr ⟨hf, .inl h0⟩)
    by_cases h1 : ch = 0
    · exact changes_far A cap zs at_ ch w hp (.inr ⟨hf, .inr ⟨by omega, h1⟩⟩)
    · exact changes_near A cap zs at_ ch w hp hr hf (by omega) ha (by omega)
  · exact changes_far A cap zs at_ ch w hp (.inl hf)

end Go.Proofs.YtdaomkjlnakdcaaDoor
