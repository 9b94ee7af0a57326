/- Walks: ShapeNames. Conditions: the table of powers of ten, the two sentinels and the library's bound on a search read as listed. -/
import Derived.Test.YtjjoendjgiiknaaDoorShapeIndex
namespace Go.Proofs.YtjjoendjgiiknaaDoor
open Go.RowKit

theorem idx_two {zs : List Int} (hs : ShOk zs) {l : List UInt8} {w0 w1 w2 w3 : World} {e e' : Ending} (h : IdxPost zs l w0 e w1) (h' : IdxPost zs l w2 e' w3) :
    ∃ (i : Nat) (b : Bool), e = .returned (.tuple #[.int .i64 i, .bool b]) ∧ e' = .returned (.tuple #[.int .i64 i, .bool b]) ∧ Below w0.heap.size w0 w1 ∧ Below w2.heap.size w2 w3 := by
  obtain ⟨h1, hb⟩ := h
  obtain ⟨h2, hb'⟩ := h'
  rcases h1 with ⟨i, hi, rfl⟩ | ⟨hi, rfl⟩
  · rcases h2 with ⟨j, hj, rfl⟩ | ⟨hj, rfl⟩
    · have := named_same hs hi hj
      subst this
      exact ⟨i, true, rfl, rfl, hb, hb'⟩
    · exact absurd hi (hj i)
  · rcases h2 with ⟨j, hj, rfl⟩ | ⟨hj, rfl⟩
    · exact absurd hj (hi j)
    · exact ⟨0, false, rfl, rfl, hb, hb'⟩

set_option maxRecDepth 100000 in
set_option maxHeartbeats 4000000 in
theorem shapeNames_any (A : Option Addr) (cap : Nat) (zs : List Int) (nm : ByteArray) (w : World) (hp : Pow w.heap.size w) (he : Errs w.heap.size w) (hx : MaxL w.heap.size w) (hr : RdI w w.heap.size A zs) (hm : zs.length ≤ 9223372036854775807) (hcap : zs.length ≤ cap) (hnm : nm.size ≤ 9223372036854775807) :
    Calls Tryd.prog 6 #[.slice A zs.length cap, .string nm] w fun e w' => e = .returned (.bool true) ∧ Below w.heap.size w w' := by
  have HA := Lib.hid (fun W (hb : Below w.heap.size w W) => alive08_any w.heap.size W (hp.on hb) hb.size)
  have HF := Lib.hid (refFew_any A cap zs w hr hm)
  obtain ⟨b, hb⟩ : ∃ b, fewS zs = b := ⟨_, rfl⟩
  rw [hb] at HF
  clear hb
  cases b with
  | false =>
    clear hr hp hm hcap hnm he hx
    go_enter Tryd.func6, Tryd.ntmps6
    go_wp2_with fail
    (with_reducible refine HF.out.mono ?_)
    rintro e w1 ⟨rfl, n, rfl⟩
    go_wp2_with fail
    (with_reducible refine (HA.out _ (below_drewN (Below.refl _ _) n)).mono ?_)
    rintro e w2 ⟨rfl, hb2⟩
    have HB2 := Lib.hid ((below_drewN (Below.refl w.heap.size w) n).trans hb2)
    clear hb2
    go_wp2_with fail
    go_ret
    exact ⟨rfl, HB2.out⟩
  | true =>
    have HR := Lib.hid (fun W (hb : Below w.heap.size w W) => refShape_any A cap zs W ((hr.below hb).more hb.size) hm)
    by_cases h0 : shCode zs = 0
    · rw [h0] at HR
      have hok := shOk_of h0
      by_cases h200 : nm.size ≤ 200
      · have HN := Lib.hid (fun W (hb : Below w.heap.size w W) => new_any A cap zs W ((hr.below hb).more hb.size) hcap hm)
        have HI := Lib.hid (fun (g : Nat) W (hb : Below w.heap.size w W) (hS : IsShape W W.heap.size g zs) => index_any g zs hok nm (by omega) w.heap.size W (hp.on hb) (he.on hb) (hx.on hb) hb.size hS)
        have HJ := Lib.hid (fun W (hb : Below w.heap.size w W) => refIndex_any A cap zs hok nm W ((hr.below hb).more hb.size))
        have HT := Lib.hid (fun (w0 w1 w2 w3 : World) (e e' : Ending) (h : IdxPost zs nm.data.toList w0 e w1) (h' : IdxPost zs nm.data.toList w2 e' w3) => idx_two hok h h')
        have H0 := Lib.hid h0
        have h200' : (nm.size : Int) ≤ 200 := by omega
        clear hr hp hm hcap hnm he hx h0 hok h200
        go_enter Tryd.func6, Tryd.ntmps6
        go_wp2_with fail
        (with_reducible refine HF.out.mono ?_)
        rintro e w1 ⟨rfl, n, rfl⟩
        have HB1 := Lib.hid (below_drewN (Below.refl w.heap.size w) n)
        go_wp2_with fail
        (with_reducible refine (HR.out _ HB1.out).mono ?_)
        rintro e w1 ⟨rfl, n1, rfl⟩
        have HB2 := Lib.hid (below_drewN (Below.refl w.heap.size w) (n + n1))
        go_wp2_with fail
        (with_reducible refine (HN.out _ HB2.out).mono ?_)
        intro e w2 ⟨hb2, hyes, _⟩
        obtain ⟨g, rfl, _, hS⟩ := hyes H0.out
        have HB3 := Lib.hid (HB2.out.trans (hb2.mono HB2.out.size))
        have HS3 := Lib.hid hS
        clear hb2 hyes hS HN HR HF HB1 HB2
        go_wp2_with fail
        (with_reducible refine (HI.out g w2 HB3.out HS3.out).mono ?_)
        intro e w3 hi
        have HP := Lib.hid hi
        have HB4 := Lib.hid (HB3.out.trans (hi.2.mono HB3.out.size))
        clear hi
        obtain ⟨i, b, rfl, HC⟩ : ∃ (i : Nat) (b : Bool), e = .returned (.tuple #[.int .i64 i, .bool b]) ∧ Hid (∀ e' w4, IdxPost zs nm.data.toList w3 e' w4 → e' = .returned (.tuple #[.int .i64 i, .bool b]) ∧ Below w3.heap.size w3 w4) := by
          rcases HP.out.1 with ⟨i, hi, rfl⟩ | ⟨hi, rfl⟩
          all_goals
            refine ⟨_, _, rfl, Lib.hid fun e' w4 h4 => ?_⟩
            obtain ⟨i, b, h1, h2, _, h3⟩ := HT.out _ _ _ _ _ _ HP.out h4
            exact ⟨h2.trans h1.symm, h3⟩
        clear HT HP HI HS3 HB3
        go_wp2_with fail
        (with_reducible refine (HJ.out w3 HB4.out).mono ?_)
        intro e w4 h4
        obtain ⟨rfl, hb⟩ := HC.out e w4 h4
        have HB5 := Lib.hid (HB4.out.trans (hb.mono HB4.out.size))
        clear hb h4 HC HB4 HJ
        go_wp2_with fail
        (with_reducible refine (HA.out _ HB5.out).mono ?_)
        rintro e w5 ⟨rfl, hb⟩
        have HB6 := Lib.hid (HB5.out.trans (hb.mono HB5.out.size))
        clear hb HB5 HA
        go_wp2_with fail
        go_ret
        exact ⟨by simp, HB6.out⟩
      · have h200' : (200 : Int) < (nm.size : Int) := by omega
        clear hr hp hm hcap he hx h0 h200 hok
        go_enter Tryd.func6, Tryd.ntmps6
        go_wp2_with fail
        (with_reducible refine HF.out.mono ?_)
        rintro e w1 ⟨rfl, n, rfl⟩
        have HB1 := Lib.hid (below_drewN (Below.refl w.heap.size w) n)
        go_wp2_with fail
        (with_reducible refine (HR.out _ HB1.out).mono ?_)
        rintro e w1 ⟨rfl, n1, rfl⟩
        have HB2 := Lib.hid (below_drewN (Below.refl w.heap.size w) (n + n1))
        go_wp2_with fail
        (with_reducible refine (HA.out _ HB2.out).mono ?_)
        rintro e w2 ⟨rfl, hb2⟩
        have HB3 := Lib.hid (HB2.out.trans (hb2.mono HB2.out.size))
        clear hb2
        go_wp2_with fail
        go_ret
        exact ⟨rfl, HB3.out⟩
    · obtain ⟨c, hc⟩ : ∃ c, shCode zs = c := ⟨_, rfl⟩
      rw [hc] at HR h0
      have hc0 : (c != 0) = true := by simpa using h0
      clear h0 hc hr hp hm hcap he hx hnm
      go_enter Tryd.func6, Tryd.ntmps6
      go_wp2_with fail
      (with_reducible refine HF.out.mono ?_)
      rintro e w1 ⟨rfl, n, rfl⟩
      have HB1 := Lib.hid (below_drewN (Below.refl w.heap.size w) n)
      go_wp2_with fail
      (with_reducible refine (HR.out _ HB1.out).mono ?_)
      rintro e w1 ⟨rfl, n1, rfl⟩
      have HB2 := Lib.hid (below_drewN (Below.refl w.heap.size w) (n + n1))
      go_wp2_with fail
      (with_reducible refine (HA.out _ HB2.out).mono ?_)
      rintro e w2 ⟨rfl, hb2⟩
      have HB3 := Lib.hid (HB2.out.trans (hb2.mono HB2.out.size))
      clear hb2
      go_wp2_with fail
      go_ret
      exact ⟨rfl, HB3.out⟩

end Go.Proofs.YtjjoendjgiiknaaDoor
