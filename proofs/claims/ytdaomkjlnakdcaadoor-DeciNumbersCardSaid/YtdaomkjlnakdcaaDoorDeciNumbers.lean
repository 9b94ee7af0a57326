/- Walks: DeciNumbers. Conditions: the table of powers of ten and the two sentinels read as listed. -/
import Derived.Test.YtdaomkjlnakdcaaDoorNumber
import Derived.Test.YtdaomkjlnakdcaaDoorDeciApart
namespace Go.Proofs.YtdaomkjlnakdcaaDoor
open Go.RowKit

set_option maxRecDepth 100000 in
set_option maxHeartbeats 1000000 in
theorem deciNumbers_any (s : ByteArray) (most : Int) (w : World) (hsm : s.size ≤ 9223372036854775807) (hp : Pow w.heap.size w) (he : Errs w.heap.size w) (hm : In64 most) :
    Calls Tryd.prog 9 #[.string s, .int .i64 most] w fun e w' => e = .returned (.bool true) ∧ Below w.heap.size w w' := by
  have HA := Lib.hid (fun W (hb : Below w.heap.size w W) => alive02_any w.heap.size W (hp.on hb) hb.size)
  by_cases h300 : 300 < s.size
  · have hd : (300 : Int) < (s.size : Int) := by omega
    clear hp he hm h300 hsm
    go_enter Tryd.func9, Tryd.ntmps9
    go_wp2_with fail
    (with_reducible refine (HA.out _ (Below.refl _ _)).mono ?_)
    rintro e w1 ⟨rfl, hb1⟩
    go_wp2_with fail
    go_ret
    exact ⟨rfl, hb1⟩
  have hd : ¬ (300 : Int) < (s.size : Int) := by omega
  have C := number_any s w.heap.size w (by omega) hp he (Nat.le_refl _)
  have R := fun W => refNumber_any s W (by omega)
  have T := fun W (hb : Below w.heap.size w W) => natural_any s most w.heap.size W (by omega) (hp.on hb) (he.on hb) hb.size hm
  have hin := numS_in s.data.toList
  have hnat : natS s.data.toList most = if (numS s.data.toList).2 = true ∧ 0 ≤ (numS s.data.toList).1 ∧ (numS s.data.toList).1 ≤ most then ((numS s.data.toList).1, true) else (0, false) := rfl
  unfold In64 at hm hin
  have hw : IntKind.i64.wrap most = most := IntWalk.i64_in _ hm
  have hw2 : IntKind.i64.wrap (numS s.data.toList).1 = (numS s.data.toList).1 := IntWalk.i64_in _ hin.1
  unfold GivesNumB at C
  unfold GivesNum at R
  unfold GivesNat at T
  generalize numS s.data.toList = p at C R hnat hw2 hin
  obtain ⟨y, is⟩ := p
  dsimp only at C R hnat hw2 hin
  have HNAT := Lib.hid hnat
  have HIN := Lib.hid hin
  have HM := Lib.hid hm
  have HC := Lib.hid C
  have HR := Lib.hid R
  clear hp he h300 hsm C R hnat hin hm
  cases is
  · have h := HIN.out.2.2 rfl
    subst h
    rw [HNAT.out, if_neg (fun h => Bool.noConfusion h.1)] at T
    have HT := Lib.hid T
    clear T HNAT
    as_aux_lemma =>
      go_enter Tryd.func9, Tryd.ntmps9
      go_wp2_with fail
      (with_reducible refine HC.out.mono ?_)
      rintro e w1 ⟨rfl, hb1⟩
      have HB1 := Lib.hid hb1
      clear hb1
      go_wp2_with fail
      (with_reducible refine (HR.out w1).mono ?_)
      rintro e w2 ⟨rfl, rfl⟩
      go_wp2_with fail
      (with_reducible refine (HT.out _ HB1.out).mono ?_)
      rintro e w3 ⟨rfl, hb3⟩
      have HB3 := Lib.hid (HB1.out.trans (hb3.mono HB1.out.size))
      clear hb3
      go_wp2_with fail
      (with_reducible refine (HA.out _ HB3.out).mono ?_)
      rintro e w4 ⟨rfl, hb4⟩
      have HB4 := Lib.hid (HB3.out.trans (hb4.mono HB3.out.size))
      clear hb4
      go_wp2_with fail
      go_ret
      first
        | exact ⟨rfl, HB4.out⟩
        | exact ⟨ret_bool (by simp; omega), HB4.out⟩
  by_cases h0 : y < 0
  · rw [HNAT.out, if_neg (fun h => by have := h.2.1; omega)] at T
    have HT := Lib.hid T
    clear T HNAT
    as_aux_lemma =>
      go_enter Tryd.func9, Tryd.ntmps9
      go_wp2_with fail
      (with_reducible refine HC.out.mono ?_)
      rintro e w1 ⟨rfl, hb1⟩
      have HB1 := Lib.hid hb1
      clear hb1
      go_wp2_with fail
      (with_reducible refine (HR.out w1).mono ?_)
      rintro e w2 ⟨rfl, rfl⟩
      go_wp2_with fail
      (with_reducible refine (HT.out _ HB1.out).mono ?_)
      rintro e w3 ⟨rfl, hb3⟩
      have HB3 := Lib.hid (HB1.out.trans (hb3.mono HB1.out.size))
      clear hb3
      go_wp2_with fail
      (with_reducible refine (HA.out _ HB3.out).mono ?_)
      rintro e w4 ⟨rfl, hb4⟩
      have HB4 := Lib.hid (HB3.out.trans (hb4.mono HB3.out.size))
      clear hb4
      go_wp2_with fail
      go_ret
      first
        | exact ⟨rfl, HB4.out⟩
        | exact ⟨ret_bool (by simp; omega), HB4.out⟩
  by_cases h1 : most < y
  · rw [HNAT.out, if_neg (fun h => by have := h.2.2; omega)] at T
    have HT := Lib.hid T
    clear T HNAT
    as_aux_lemma =>
      go_enter Tryd.func9, Tryd.ntmps9
      go_wp2_with fail
      (with_reducible refine HC.out.mono ?_)
      rintro e w1 ⟨rfl, hb1⟩
      have HB1 := Lib.hid hb1
      clear hb1
      go_wp2_with fail
      (with_reducible refine (HR.out w1).mono ?_)
      rintro e w2 ⟨rfl, rfl⟩
      go_wp2_with fail
      (with_reducible refine (HT.out _ HB1.out).mono ?_)
      rintro e w3 ⟨rfl, hb3⟩
      have HB3 := Lib.hid (HB1.out.trans (hb3.mono HB1.out.size))
      clear hb3
      go_wp2_with fail
      (with_reducible refine (HA.out _ HB3.out).mono ?_)
      rintro e w4 ⟨rfl, hb4⟩
      have HB4 := Lib.hid (HB3.out.trans (hb4.mono HB3.out.size))
      clear hb4
      go_wp2_with fail
      go_ret
      first
        | exact ⟨rfl, HB4.out⟩
        | exact ⟨ret_bool (by simp; omega), HB4.out⟩
  · rw [HNAT.out, if_pos ⟨rfl, by omega, by omega⟩] at T
    have HT := Lib.hid T
    clear T HNAT
    as_aux_lemma =>
      go_enter Tryd.func9, Tryd.ntmps9
      go_wp2_with fail
      (with_reducible refine HC.out.mono ?_)
      rintro e w1 ⟨rfl, hb1⟩
      have HB1 := Lib.hid hb1
      clear hb1
      go_wp2_with fail
      (with_reducible refine (HR.out w1).mono ?_)
      rintro e w2 ⟨rfl, rfl⟩
      go_wp2_with fail
      (with_reducible refine (HT.out _ HB1.out).mono ?_)
      rintro e w3 ⟨rfl, hb3⟩
      have HB3 := Lib.hid (HB1.out.trans (hb3.mono HB1.out.size))
      clear hb3
      go_wp2_with fail
      (with_reducible refine (HA.out _ HB3.out).mono ?_)
      rintro e w4 ⟨rfl, hb4⟩
      have HB4 := Lib.hid (HB3.out.trans (hb4.mono HB3.out.size))
      clear hb4
      go_wp2_with fail
      go_ret
      first
        | exact ⟨rfl, HB4.out⟩
        | exact ⟨ret_bool (by simp; omega), HB4.out⟩

end Go.Proofs.YtdaomkjlnakdcaaDoor
