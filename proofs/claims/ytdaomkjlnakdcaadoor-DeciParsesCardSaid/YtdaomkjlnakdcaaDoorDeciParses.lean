/- Walks: DeciParses. Conditions: the table of powers of ten, the two sentinels and the library's greatest length read as listed. -/
import Derived.Test.YtdaomkjlnakdcaaDoorRefParse
namespace Go.Proofs.YtdaomkjlnakdcaaDoor
open Go.RowKit

theorem parseS_in (l : List UInt8) (q : Int) : parseS l q = (0, false) ∨ ∃ (n : Nat) (x : Int), q = n ∧ n ≤ 62 ∧ In64 x ∧ l = decText x n ∧ parseS l q = (x, true) := by
  by_cases hq : 0 ≤ q ∧ q ≤ 62
  · obtain ⟨n, rfl⟩ : ∃ n : Nat, q = (n : Int) := ⟨q.toNat, by omega⟩
    by_cases h : ∃ x, In64 x ∧ l = decText x n
    · obtain ⟨x, hx, e⟩ := h
      exact .inr ⟨n, x, rfl, by omega, hx, e, parseS_yes (by omega) hx e⟩
    · exact .inl (parseS_no fun x hx e => h ⟨x, hx, e⟩)
  · exact .inl (parseS_out hq)

set_option maxRecDepth 100000 in
set_option maxHeartbeats 1000000 in
theorem deciParses_any (s : ByteArray) (q : Int) (w : World) (hsm : s.size ≤ 9223372036854775807) (hp : Pow w.heap.size w) (he : Errs w.heap.size w) (hm : MaxL w.heap.size w) :
    Calls Tryd.prog 11 #[.string s, .int .i64 q] w fun e w' => e = .returned (.bool true) ∧ Below w.heap.size w w' := by
  have HA := Lib.hid (fun W (hb : Below w.heap.size w W) => alive02_any w.heap.size W (hp.on hb) hb.size)
  by_cases h300 : 300 < s.size
  · have hd : (300 : Int) < (s.size : Int) := by omega
    clear hp he hm h300 hsm
    go_enter Tryd.func11, Tryd.ntmps11
    go_wp2_with fail
    (with_reducible refine (HA.out _ (Below.refl _ _)).mono ?_)
    rintro e w1 ⟨rfl, hb1⟩
    go_wp2_with fail
    go_ret
    exact ⟨rfl, hb1⟩
  have hd : ¬ (300 : Int) < (s.size : Int) := by omega
  have C := parse_any s q w.heap.size w (by omega) (Nat.le_refl _) hp he hm
  have R := fun W => refParse_any s q W (by omega)
  unfold GivesParse at C R
  rcases parseS_in s.data.toList q with h | ⟨n, x, rfl, hn, hx, hl, h⟩
  · rw [h] at C R
    have HC := Lib.hid C
    have HR := Lib.hid R
    clear C R h hp he hm h300 hsm
    as_aux_lemma =>
      go_enter Tryd.func11, Tryd.ntmps11
      go_wp2_with fail
      (with_reducible refine HC.out.mono ?_)
      rintro e w1 ⟨rfl, hb1⟩
      have HB1 := Lib.hid hb1
      clear hb1
      go_wp2_with fail
      (with_reducible refine (HR.out _).mono ?_)
      rintro e w2 ⟨rfl, hb2⟩
      have HB2 := Lib.hid (HB1.out.trans (hb2.mono HB1.out.size))
      clear hb2
      go_wp2_with fail
      (with_reducible refine (HA.out _ HB2.out).mono ?_)
      rintro e w3 ⟨rfl, hb3⟩
      have HB3 := Lib.hid (HB2.out.trans (hb3.mono HB2.out.size))
      clear hb3
      go_wp2_with fail
      go_ret
      exact ⟨rfl, HB3.out⟩
  · rw [h] at C R
    have HC := Lib.hid C
    have HR := Lib.hid R
    have HT := Lib.hid (fun W (hb : Below w.heap.size w W) => decText_any x n hn hx w.heap.size W (hp.on hb) hb.size)
    have hne : (decText x n == s.toList) = true := by rw [Go.ByteArray.toList_eq, hl]; simp
    clear C R h hp he hm h300 hsm hl hx hn
    as_aux_lemma =>
      go_enter Tryd.func11, Tryd.ntmps11
      go_wp2_with fail
      (with_reducible refine HC.out.mono ?_)
      rintro e w1 ⟨rfl, hb1⟩
      have HB1 := Lib.hid hb1
      clear hb1
      go_wp2_with fail
      (with_reducible refine (HR.out _).mono ?_)
      rintro e w2 ⟨rfl, hb2⟩
      have HB2 := Lib.hid (HB1.out.trans (hb2.mono HB1.out.size))
      clear hb2
      go_wp2_with fail
      (with_reducible refine (HA.out _ HB2.out).mono ?_)
      rintro e w3 ⟨rfl, hb3⟩
      have HB3 := Lib.hid (HB2.out.trans (hb3.mono HB2.out.size))
      clear hb3
      go_wp2_with fail
      (with_reducible refine (HT.out _ HB3.out).mono ?_)
      rintro e w4 ⟨rfl, hb4⟩
      have HB4 := Lib.hid (HB3.out.trans (hb4.mono HB3.out.size))
      clear hb4
      go_wp2_with fail
      go_ret
      exact ⟨rfl, HB4.out⟩

end Go.Proofs.YtdaomkjlnakdcaaDoor
