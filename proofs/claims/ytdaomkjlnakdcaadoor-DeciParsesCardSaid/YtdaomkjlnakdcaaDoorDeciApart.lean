/- Walks: the example of the chapter, DeciApart. Conditions: the table of powers of ten reads as listed. -/
import Derived.Test.YtdaomkjlnakdcaaDoorDeciText
import Derived.Test.YtdaomkjlnakdcaaDoorDeciInj
namespace Go.Proofs.YtdaomkjlnakdcaaDoor
open Go.RowKit

set_option maxHeartbeats 400000 in
theorem alive02_any (B : Nat) (w : World) (hp : Pow B w) (hB : B ≤ w.heap.size) : Calls Tryd.prog 26 #[] w fun e w' => e = .returned (.bool true) ∧ Below w.heap.size w w' := by
  have t1 : (⟨(decText 3 1).toArray⟩ : ByteArray) = ⟨#[49, 46, 53]⟩ := by decide +kernel
  have t2 : (⟨(decText (-1) 2).toArray⟩ : ByteArray) = ⟨#[45, 48, 46, 50, 53]⟩ := by decide +kernel
  have C1 : Calls Tryd.prog 27 #[.int .i64 3, .int .i64 1] w _ := decText_any 3 1 (by decide) (by decide) B w hp hB
  rw [t1] at C1
  have H1 := Lib.hid C1
  have HP := Lib.hid hp
  clear C1 hp t1
  go_enter Tryd.func26, Tryd.ntmps26
  go_wp2_with fail
  (with_reducible refine H1.out.mono ?_)
  rintro e w1 ⟨rfl, hb1⟩
  have C2 : Calls Tryd.prog 27 #[.int .i64 (-1), .int .i64 2] w1 _ := decText_any (-1) 2 (by decide) (by decide) B w1 (HP.out.on (hb1.mono hB)) (Nat.le_trans hB hb1.size)
  rw [t2] at C2
  have H2 := Lib.hid C2
  have HB1 := Lib.hid hb1
  clear C2 hb1 t2
  go_wp2_with fail
  (with_reducible refine H2.out.mono ?_)
  rintro e w2 ⟨rfl, hb2⟩
  go_wp2
  go_ret
  exact ⟨rfl, HB1.out.trans (hb2.mono HB1.out.size)⟩

set_option maxHeartbeats 400000 in
theorem deciApart_any (x y q : Int) (w : World) (hp : Pow w.heap.size w) (hx : -9223372036854775808 ≤ x ∧ x ≤ 9223372036854775807) (hy : -9223372036854775808 ≤ y ∧ y ≤ 9223372036854775807) (hq : 0 ≤ q ∧ q ≤ 255) :
    Calls Tryd.prog 7 #[.int .i64 x, .int .i64 y, .int .u8 q] w fun e w' => e = .returned (.bool true) ∧ Below w.heap.size w w' := by
  obtain ⟨n, hn⟩ : ∃ n : Nat, q % 63 = (n : Int) := ⟨(q % 63).toNat, by omega⟩
  have hn62 : n ≤ 62 := by omega
  obtain ⟨q1, q2⟩ := hq
  have hw1 : IntKind.i64.wrap q = q := IntWalk.i64_in _ (by omega)
  have C1 := Lib.hid (alive02_any _ w hp (Nat.le_refl _))
  have C2 := fun W (hb : Below w.heap.size w W) => decText_any x n hn62 hx w.heap.size W (hp.on hb) hb.size
  have C3 := fun W (hb : Below w.heap.size w W) => decText_any y n hn62 hy w.heap.size W (hp.on hb) hb.size
  have H2 := Lib.hid C2
  have H3 := Lib.hid C3
  have HINJ := Lib.hid (show ((decText x n == decText y n) == (x == y)) = true by
    by_cases e : x = y
    · subst e
      rw [beq_self_eq_true, beq_self_eq_true]
      rfl
    · rw [beq_eq_false_iff_ne.2 (fun h => e (decText_inj h)), beq_eq_false_iff_ne.2 e]
      rfl)
  clear C2 C3 hp hx hy hn62
  go_enter Tryd.func7, Tryd.ntmps7
  go_wp2_with fail
  (with_reducible refine C1.out.mono ?_)
  rintro e w1 ⟨rfl, hb1⟩
  have HB1 := Lib.hid hb1
  clear hb1 C1
  go_wp2_with fail
  (with_reducible refine (H2.out _ HB1.out).mono ?_)
  rintro e w2 ⟨rfl, hb2⟩
  have HB2 := Lib.hid (HB1.out.trans (hb2.mono HB1.out.size))
  clear hb2 H2
  go_wp2_with fail
  (with_reducible refine (H3.out _ HB2.out).mono ?_)
  rintro e w3 ⟨rfl, hb3⟩
  have HB3 := Lib.hid (HB2.out.trans (hb3.mono HB2.out.size))
  clear hb3 H3
  go_wp2
  go_ret
  exact ⟨ret_bool HINJ.out, HB3.out⟩

end Go.Proofs.YtdaomkjlnakdcaaDoor
