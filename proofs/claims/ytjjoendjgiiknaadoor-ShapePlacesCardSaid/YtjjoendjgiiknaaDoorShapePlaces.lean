/- Walks: ShapePlaces. Conditions: the table of powers of ten, the two sentinels and the library's bound on a search read as listed. -/
import Derived.Test.YtjjoendjgiiknaaDoorShapeNames
import Derived.Test.YtjjoendjgiiknaaDoorPlaceEq
namespace Go.Proofs.YtjjoendjgiiknaaDoor
open Go.RowKit

/-- The worlds behind w that keep what w has. -/
def KeepsP (w W : World) : Prop := Below w.heap.size w W
theorem wp_region_in {P : Program} {C : World → Prop} {id : Nat} {Q : Exit → Act → World → Prop} {a : Act} {w : World} {l : List Oper} (hm : P.follows .mixedOrders = true) (hB : Region.lexB .any l.toArray = true) (hC : C w.drew)
    (h : wpQuiet P l.toArray C (fun a' => ∀ w', C w' → Q .normal a' w') l a) : (Code.region id l.toArray true).wp P Q a w :=
  wp_region_quiet (C := C) hm hB hC (by simpa using h)

set_option maxRecDepth 100000 in
set_option maxHeartbeats 4000000 in
theorem shapePlaces_any (A : Option Addr) (cap : Nat) (zs : List Int) (i : Int) (w : World) (hp : Pow w.heap.size w) (he : Errs w.heap.size w) (hx : MaxL w.heap.size w) (hr : RdI w w.heap.size A zs) (hm : zs.length ≤ 9223372036854775807) (hcap : zs.length ≤ cap) :
    Calls Tryd.prog 5 #[.slice A zs.length cap, .int .i64 i] w fun e w' => e = .returned (.bool true) ∧ Below w.heap.size w w' := by
  have HA := Lib.hid (fun W (hb : Below w.heap.size w W) => alive08_any w.heap.size W (hp.on hb) hb.size)
  have HF := Lib.hid (refFew_any A cap zs w hr hm)
  obtain ⟨b, hb⟩ : ∃ b, fewS zs = b := ⟨_, rfl⟩
  rw [hb] at HF
  clear hb
  cases b with
  | false =>
    clear hr hp hm hcap he hx
    go_enter Tryd.func5, Tryd.ntmps5
    go_wp2_with fail
    (with_reducible refine HF.out.mono ?_)
    rintro e w1 ⟨rfl, n, rfl⟩
    go_wp2_with fail
    (with_reducible refine (HA.out _ (below_drewN (Below.refl _ _) n)).mono ?_)
    rintro e w2 ⟨rfl, hb2⟩
    have HB2 := Lib.hid ((below_drewN (Below.refl w.heap.size w) n).trans hb2)
    clear hb2
    go_wp2_with fail
    go_ret
    exact ⟨rfl, HB2.out⟩
  | true =>
    have HR := Lib.hid (fun W (hb : Below w.heap.size w W) => refShape_any A cap zs W ((hr.below hb).more hb.size) hm)
    by_cases h0 : shCode zs = 0
    · rw [h0] at HR
      have hok := shOk_of h0
      have HN := Lib.hid (fun W (hb : Below w.heap.size w W) => new_any A cap zs W ((hr.below hb).more hb.size) hcap hm)
      have HPS := Lib.hid (fun W (hb : Below w.heap.size w W) => refPlaces_any A cap zs hok W ((hr.below hb).more hb.size))
      have H0 := Lib.hid h0
      have hpl := places_len hok
      have hcn := hok.2.2.2
      by_cases hi : 0 ≤ i ∧ i < cnt zs
      · obtain ⟨n, rfl⟩ := Int.eq_ofNat_of_zero_le hi.1
        obtain ⟨p, hp1, hp2⟩ := places_at hok (i := n) (by omega)
        have HPL := Lib.hid (fun (g : Nat) W (hS : IsShape W W.heap.size g zs) => place_yes g zs hok n p hp2 W hS)
        have HNM := Lib.hid (fun (g : Nat) W (hb : Below w.heap.size w W) (hS : IsShape W W.heap.size g zs) => name_yes g zs hok n p hp2 w.heap.size W (hp.on hb) hb.size hS)
        have HRN := Lib.hid (fun W => refName_any p (place_ok hok hp2) W)
        have hsz : (⟨(nameL p).toArray⟩ : ByteArray).size ≤ 1000 := by
          have hk := place_ok hok hp2
          have h1 := pts_len (numL p) (pl_in (p := p) ⟨hk.1.1, by have := hk.1.2; omega, hk.2.1.1, hk.2.1.2, hk.2.2.1, hk.2.2.2⟩)
          have h2 : (numL p).length ≤ 3 := by unfold numL; split <;> simp
          simp [ByteArray.size, nameL]
          omega
        have HIX := Lib.hid (fun (g : Nat) W (hb : Below w.heap.size w W) (hS : IsShape W W.heap.size g zs) => (index_any g zs hok ⟨(nameL p).toArray⟩ hsz w.heap.size W (hp.on hb) (he.on hb) (hx.on hb) hb.size hS).mono (R' := fun e w' => e = .returned (.tuple #[.int .i64 n, .bool true]) ∧ Below W.heap.size W w') fun e w' h => by
          refine ⟨?_, h.2⟩
          rcases h.1 with ⟨j, hj, rfl⟩ | ⟨hj, rfl⟩
          · rw [named_same hok hj ⟨p, hp1, rfl⟩]
          · exact absurd ⟨p, hp1, rfl⟩ (hj n))
        obtain ⟨nm, hnm⟩ : ∃ nm : ByteArray, ⟨(nameL p).toArray⟩ = nm := ⟨_, rfl⟩
        rw [hnm] at HIX HNM HRN
        obtain ⟨pn, hpn⟩ : ∃ pn, (places zs).length = pn := ⟨_, rfl⟩
        rw [hpn] at hpl
        have hnp : (n : Int) < (pn : Int) := by omega
        have hpn2 : (pn : Int) ≤ 1048576 := by omega
        have HPN := Lib.hid hpn
        have HP1 := Lib.hid hp1
        obtain ⟨k, r, c⟩ := p
        dsimp only at HPL HRN
        clear hr hp hm hcap he hx h0 hok hi hpl hcn hpn hnm hsz hp1 hp2
        go_enter Tryd.func5, Tryd.ntmps5
        go_wp2_with fail
        (with_reducible refine HF.out.mono ?_)
        rintro e w1 ⟨rfl, m, rfl⟩
        have HB1 := Lib.hid (below_drewN (Below.refl w.heap.size w) m)
        go_wp2_with fail
        (with_reducible refine (HR.out _ HB1.out).mono ?_)
        rintro e w1 ⟨rfl, n1, rfl⟩
        have HB2 := Lib.hid (below_drewN (Below.refl w.heap.size w) (m + n1))
        go_wp2_with fail
        (with_reducible refine (HN.out _ HB2.out).mono ?_)
        intro e w2 ⟨hb2, hyes, _⟩
        obtain ⟨g, rfl, _, hS⟩ := hyes H0.out
        have HB3 := Lib.hid (HB2.out.trans (hb2.mono HB2.out.size))
        have HS3 := Lib.hid hS
        clear hb2 hyes hS HN HR HF HB1 HB2
        go_wp2_with fail
        (with_reducible refine (HPS.out w2 HB3.out).mono ?_)
        rintro e w3 ⟨v, rfl, ho, hb⟩
        obtain ⟨Ap, cp, rfl⟩ := own_slice ho
        obtain ⟨gp, rfl, hgp, hcs⟩ := ownP_cells ho (by rw [HPN.out]; omega)
        obtain ⟨f0, f1, f2⟩ := hcs n _ HP1.out
        dsimp only at f0 f1 f2
        rw [HPN.out]
        have HB4 := Lib.hid (HB3.out.trans (hb.mono HB3.out.size))
        have HS4 := Lib.hid (HS3.out.next hb)
        have HC4 := Lib.hid (fun W (hb : Below w3.heap.size w3 W) => And.intro ((hb.cell (p := ⟨gp, n * 3, none⟩) hgp).trans f0) (And.intro ((hb.cell (p := ⟨gp, n * 3 + 1, none⟩) hgp).trans f1) ((hb.cell (p := ⟨gp, n * 3 + 2, none⟩) hgp).trans f2)))
        clear hb ho HPS HB3 HS3 hcs f0 f1 f2
        go_wp2_with fail
        (with_reducible refine (HPL.out g w3 HS4.out).mono ?_)
        rintro e w4 ⟨rfl, hb⟩
        have HB5 := Lib.hid hb
        clear hb HPL
        go_wp2_with fail
        (with_reducible refine (HNM.out g w4 (HB4.out.trans (HB5.out.mono HB4.out.size)) (HS4.out.next HB5.out)).mono ?_)
        rintro e w5 ⟨rfl, hb⟩
        have HB6 := Lib.hid (HB5.out.trans (hb.mono HB5.out.size))
        clear hb HB5
        go_wp2_with fail
        (with_reducible refine (HIX.out g w5 (HB4.out.trans (HB6.out.mono HB4.out.size)) (HS4.out.next HB6.out)).mono ?_)
        rintro e w6 ⟨rfl, hb⟩
        have HB7 := Lib.hid (HB6.out.trans (hb.mono HB6.out.size))
        clear hb HB6 HIX
        go_wp2_with fail
        have gP := guardP
        have qP := eqlP
        refine wp_region_in (C := KeepsP w3) (by kernel_rfl) (by kernel_rfl) (below_drew HB7.out) ?_
        go_big_quiet_want
        go_big_quiet_op
        apply Exists.intro
        refine ⟨fun _ => ?_, ?_⟩
        · intro hC; go_at_call 8; exact (HA.out _ (HB4.out.trans (Below.mono hC HB4.out.size))).mono fun _ _ h => ⟨h.1, Below.trans hC (h.2.mono (Below.size hC))⟩
        go_big_quiet_on
        repeat (first | go_big_quiet_skip | (go_big_quiet_want; go_big_quiet_op; first | go_big_quiet_on | (refine ⟨_, fun _ _ => rfl, ?_⟩; go_big_quiet_on)))
        go_big_quiet_want
        go_big_quiet_op
        refine ⟨.agg #[.int .i64 k, .int .i64 r, .int .i64 c], fun W hW => ?_, ?_⟩
        · obtain ⟨f0, f1, f2⟩ := HC4.out W hW
          simp [f0, f1, f2, Result.andThen]
        go_big_quiet_on
        repeat (first | go_big_quiet_skip | (go_big_quiet_want; go_big_quiet_op; first | go_big_quiet_on | (refine ⟨_, fun _ _ => rfl, ?_⟩; go_big_quiet_on)))
        go_big_quiet_want
        go_big_quiet_op
        apply Exists.intro
        refine ⟨fun _ => ?_, ?_⟩
        · intro hC; go_at_call 24; exact (HNM.out g _ (HB4.out.trans (Below.mono hC HB4.out.size)) (HS4.out.next hC)).mono fun _ _ h => ⟨h.1, Below.trans hC (h.2.mono (Below.size hC))⟩
        go_big_quiet_on
        repeat (first | go_big_quiet_skip | (go_big_quiet_want; go_big_quiet_op; first | go_big_quiet_on | (refine ⟨_, fun _ _ => rfl, ?_⟩; go_big_quiet_on)))
        go_big_quiet_want
        go_big_quiet_op
        refine ⟨.agg #[.int .i64 k, .int .i64 r, .int .i64 c], fun W hW => ?_, ?_⟩
        · obtain ⟨f0, f1, f2⟩ := HC4.out W hW
          simp [f0, f1, f2, Result.andThen]
        go_big_quiet_on
        repeat (first | go_big_quiet_skip | (go_big_quiet_want; go_big_quiet_op; first | go_big_quiet_on | (refine ⟨_, fun _ _ => rfl, ?_⟩; go_big_quiet_on)))
        go_big_quiet_want
        go_big_quiet_op
        apply Exists.intro
        refine ⟨fun _ => ?_, ?_⟩
        · intro hC; go_at_call 26; exact (HRN.out _).mono fun _ _ h => ⟨h.1, Below.trans hC (h.2.mono (Below.size hC))⟩
        go_big_quiet_on
        repeat (first | go_big_quiet_skip | (go_big_quiet_want; go_big_quiet_op; first | go_big_quiet_on | (refine ⟨_, fun _ _ => rfl, ?_⟩; go_big_quiet_on)))
        refine wpQuiet_nil ?_
        intro w9 hC9
        have HB9 := Lib.hid (HB4.out.trans (Below.mono hC9 HB4.out.size))
        clear hC9
        go_wp2_with fail
        go_ret
        exact ⟨rfl, HB9.out⟩
      · have HPL := Lib.hid (fun (g : Nat) W (hS : IsShape W W.heap.size g zs) => place_no g zs hok i hi W hS)
        have HNM := Lib.hid (fun (g : Nat) W (hS : IsShape W W.heap.size g zs) => name_no g zs hok i hi W hS)
        obtain ⟨pn, hpn⟩ : ∃ pn, (places zs).length = pn := ⟨_, rfl⟩
        rw [hpn] at hpl
        have hpn2 : (pn : Int) ≤ 1048576 := by omega
        have hii : i < 0 ∨ (0 ≤ i ∧ (pn : Int) ≤ i) := by omega
        have HPN := Lib.hid hpn
        clear hr hp hm hcap he hx h0 hok hi hpl hcn hpn
        go_enter Tryd.func5, Tryd.ntmps5
        go_wp2_with fail
        (with_reducible refine HF.out.mono ?_)
        rintro e w1 ⟨rfl, n, rfl⟩
        have HB1 := Lib.hid (below_drewN (Below.refl w.heap.size w) n)
        go_wp2_with fail
        (with_reducible refine (HR.out _ HB1.out).mono ?_)
        rintro e w1 ⟨rfl, n1, rfl⟩
        have HB2 := Lib.hid (below_drewN (Below.refl w.heap.size w) (n + n1))
        go_wp2_with fail
        (with_reducible refine (HN.out _ HB2.out).mono ?_)
        intro e w2 ⟨hb2, hyes, _⟩
        obtain ⟨g, rfl, _, hS⟩ := hyes H0.out
        have HB3 := Lib.hid (HB2.out.trans (hb2.mono HB2.out.size))
        have HS3 := Lib.hid hS
        clear hb2 hyes hS HN HR HF HB1 HB2
        go_wp2_with fail
        (with_reducible refine (HPS.out w2 HB3.out).mono ?_)
        rintro e w3 ⟨v, rfl, ho, hb⟩
        obtain ⟨Ap, cp, rfl⟩ := own_slice ho
        rw [HPN.out]
        have HB4 := Lib.hid (HB3.out.trans (hb.mono HB3.out.size))
        have HS4 := Lib.hid (HS3.out.next hb)
        clear hb ho HPS HB3 HS3
        go_wp2_with fail
        (with_reducible refine (HPL.out g w3 HS4.out).mono ?_)
        rintro e w4 ⟨rfl, hb⟩
        have HB5 := Lib.hid (HB4.out.trans (hb.mono HB4.out.size))
        have HS5 := Lib.hid (HS4.out.next hb)
        clear hb HPL HB4 HS4
        rcases hii with hii | ⟨hi0, hii⟩
        all_goals
          go_wp2_with fail
          (with_reducible refine (HA.out _ HB5.out).mono ?_)
          rintro e w5 ⟨rfl, hb⟩
          have HB6 := Lib.hid (HB5.out.trans (hb.mono HB5.out.size))
          have HS6 := Lib.hid (HS5.out.next hb)
          clear hb HB5 HS5
          go_wp2_with fail
          (with_reducible refine (HNM.out g w5 HS6.out).mono ?_)
          rintro e w6 ⟨rfl, hb⟩
          have HB7 := Lib.hid (HB6.out.trans (hb.mono HB6.out.size))
          clear hb HB6 HS6
          go_wp2_with fail
          go_ret
          exact ⟨rfl, HB7.out⟩
    · obtain ⟨c, hc⟩ : ∃ c, shCode zs = c := ⟨_, rfl⟩
      rw [hc] at HR h0
      have hc0 : (c != 0) = true := by simpa using h0
      clear h0 hc hr hp hm hcap he hx
      go_enter Tryd.func5, Tryd.ntmps5
      go_wp2_with fail
      (with_reducible refine HF.out.mono ?_)
      rintro e w1 ⟨rfl, n, rfl⟩
      have HB1 := Lib.hid (below_drewN (Below.refl w.heap.size w) n)
      go_wp2_with fail
      (with_reducible refine (HR.out _ HB1.out).mono ?_)
      rintro e w1 ⟨rfl, n1, rfl⟩
      have HB2 := Lib.hid (below_drewN (Below.refl w.heap.size w) (n + n1))
      go_wp2_with fail
      (with_reducible refine (HA.out _ HB2.out).mono ?_)
      rintro e w2 ⟨rfl, hb2⟩
      have HB3 := Lib.hid (HB2.out.trans (hb2.mono HB2.out.size))
      clear hb2
      go_wp2_with fail
      go_ret
      exact ⟨rfl, HB3.out⟩

end Go.Proofs.YtjjoendjgiiknaaDoor
