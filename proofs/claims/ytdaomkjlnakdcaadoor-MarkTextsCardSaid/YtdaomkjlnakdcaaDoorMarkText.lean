/- Walks: mark.Text, and the example of the chapter. Conditions: the table of powers of ten reads as listed. -/
import Derived.Test.YtdaomkjlnakdcaaDoorMarkRefOf
import Derived.Test.YtdaomkjlnakdcaaDoorPow
namespace Go.Proofs.YtdaomkjlnakdcaaDoor
open Go.RowKit

theorem IsF.toVal {a : Nat} {x : Int} (h : IsF a x) (hx : -9223372036854775808 ≤ x ∧ x ≤ 9223372036854775807) : floatToIntVal .f64 a .i64 = some x := by
  unfold floatToIntVal
  have h1 : (FloatKind.f64.decode a).toInt .zero = some x := h.rep.toInt
  rw [h1]
  have h2 : IntKind.i64.min ≤ x ∧ x ≤ IntKind.i64.max := hx
  simp only [h2, and_self, if_true]

theorem IsF.minus2 : IsF 13835058055282163712 (-2) := ⟨by decide, .inl ⟨by decide, by decide⟩⟩

theorem rdI_new (w : World) (zs : List Int) (t : TypeId) : RdI (w.alloc (.cells (zs.map (Value.int .i64)).toArray t (0, 0))) (w.heap.size + 1) (some ⟨w.heap.size, 0, none⟩) zs := fun _ =>
  ⟨w.heap.size, 0, rfl, by omega, fun j u hu => by rw [Nat.zero_add, blk_cell (heap_alloc_new _ _)]; simpa using hu⟩

theorem markOf_new (zs : List Int) (w : World) (t : TypeId) (hl : zs.length ≤ 1048576) :
    Calls Tryd.prog 14 #[.slice (some ⟨w.heap.size, 0, none⟩) zs.length zs.length] (w.alloc (.cells (zs.map (Value.int .i64)).toArray t (0, 0))) fun e w' => (∃ a b : Nat, e = .returned (.complex .f64 a b) ∧ IsF a (ofRe 0 zs) ∧ IsF b (ofIm 0 zs)) ∧ Below w.heap.size w w' :=
  (markOf_any _ _ zs _ ((rdI_new w zs t).more (by simp)) hl).mono fun _ _ h => ⟨h.1, ((Below.refl _ _).alloc (Nat.le_refl _) _).trans (h.2.mono (by simp))⟩

def markText (x y : Int) : List UInt8 := Lib.itoa x ++ (if 0 ≤ y then [43] else []) ++ Lib.itoa y ++ [105]

set_option maxHeartbeats 400000 in
theorem markText_any (a b : Nat) (x y : Int) (B : Nat) (w : World) (hp : Pow B w) (hB : B ≤ w.heap.size) (ha : IsF a x) (hb : IsF b y) (hx : -9223372036854775808 ≤ x ∧ x ≤ 9223372036854775807) (hy : -9223372036854775808 ≤ y ∧ y ≤ 9223372036854775807) :
    Calls Tryd.prog 38 #[.complex .f64 a b] w fun e w' => e = .returned (.string ⟨(markText x y).toArray⟩) ∧ Below w.heap.size w w' := by
  have c1 := fun W : World => run_convert_float_int (P := Tryd.prog) 33 2 .f64 .i64 a x (by kernel_rfl) (by kernel_rfl) (ha.toVal hx) (w := W)
  have c2 := fun W : World => run_convert_float_int (P := Tryd.prog) 33 2 .f64 .i64 b y (by kernel_rfl) (by kernel_rfl) (hb.toVal hy) (w := W)
  have F1 := Lib.hid (Tryd.strconv_FormatInt_10 x hx.1 hx.2 w hp.here)
  have F2 := fun W (hW : Pow B W) => Lib.hid (Tryd.strconv_FormatInt_10 y hy.1 hy.2 W hW.here)
  have HP := Lib.hid hp
  have lx := Lib.itoa_length_le x hx.1 hx.2
  have ly := Lib.itoa_length_le y hy.1 hy.2
  clear hp ha hb hx hy
  by_cases hneg : 0 ≤ y
  · have hm : Hid (Lib.itoa x ++ [43] ++ Lib.itoa y ++ [105] = markText x y) := Lib.hid (by simp [markText, hneg])
    go_enter Tryd.func38, Tryd.ntmps38
    go_wp2_with fail
    refine F1.out.mono ?_
    rintro e w1 ⟨rfl, q, os, hw1⟩
    have b1 := Lib.hid (show Below w.heap.size w w1 by rw [hw1]; exact Lib.below_grow _ _ (Nat.le_refl _) _ _)
    clear hw1
    go_wp2_with fail
    refine (F2 _ (HP.out.on (b1.out.mono hB))).out.mono ?_
    rintro e w2 ⟨rfl, q, os, hw2⟩
    have b2 := Lib.hid (show Below w.heap.size w w2 by rw [hw2]; exact b1.out.trans (Lib.below_grow _ _ b1.out.size _ _))
    clear hw2
    go_wp2
    go_ret
    refine ⟨?_, b2.out⟩
    rw [← hm.out]
    rfl
  · have hm : Hid (Lib.itoa x ++ Lib.itoa y ++ [105] = markText x y) := Lib.hid (by simp [markText, hneg])
    go_enter Tryd.func38, Tryd.ntmps38
    go_wp2_with fail
    refine F1.out.mono ?_
    rintro e w1 ⟨rfl, q, os, hw1⟩
    have b1 := Lib.hid (show Below w.heap.size w w1 by rw [hw1]; exact Lib.below_grow _ _ (Nat.le_refl _) _ _)
    clear hw1
    go_wp2_with fail
    refine (F2 _ (HP.out.on (b1.out.mono hB))).out.mono ?_
    rintro e w2 ⟨rfl, q, os, hw2⟩
    have b2 := Lib.hid (show Below w.heap.size w w2 by rw [hw2]; exact b1.out.trans (Lib.below_grow _ _ b1.out.size _ _))
    clear hw2
    go_wp2
    go_ret
    refine ⟨?_, b2.out⟩
    rw [← hm.out]
    rfl

set_option maxHeartbeats 400000 in
theorem alive_any (B : Nat) (w : World) (hp : Pow B w) (hB : B ≤ w.heap.size) : Calls Tryd.prog 13 #[] w fun e w' => e = .returned (.bool true) ∧ Below w.heap.size w w' := by
  have t1 : (⟨(markText (-1) 0).toArray⟩ : ByteArray) = ⟨#[45, 49, 43, 48, 105]⟩ := by decide +kernel
  have C1 := Lib.hid (markText_any 13830554455654793216 0 (-1) 0 B w hp hB IsF.minus IsF.nought (by decide) (by decide))
  rw [t1] at C1
  go_enter Tryd.func13, Tryd.ntmps13
  go_wp2_with fail
  refine C1.out.mono ?_
  rintro e w1 ⟨rfl, hb1⟩
  have C2 := Lib.hid (markOf_new [1, 2, 3, 4] w1 2 (by decide))
  have C3 := fun W => Lib.hid (markOf_new [65535] W 2 (by decide))
  have HB1 := Lib.hid hb1
  clear hb1 C1
  go_wp2_with fail
  refine C2.out.mono ?_
  rintro e w2 ⟨⟨a, b, rfl, ha, hb⟩, hb2⟩
  have q1 := feq_int ha IsF.minus2
  have q2 := feq_int hb IsF.minus2
  rw [show ofRe 0 [1, 2, 3, 4] = -2 by decide] at q1
  rw [show ofIm 0 [1, 2, 3, 4] = -2 by decide] at q2
  have HB2 := Lib.hid hb2
  clear hb2 C2 ha hb
  go_wp2_with fail
  refine (C3 _).out.mono ?_
  rintro e w3 ⟨⟨c, d, rfl, hc, hd⟩, hb3⟩
  have q3 := feq_int hc IsF.minus
  have q4 := feq_int hd IsF.nought
  rw [show ofRe 0 [65535] = -1 by decide] at q3
  rw [show ofIm 0 [65535] = 0 by decide] at q4
  have HB3 := Lib.hid hb3
  clear hb3 C3 hc hd
  go_wp2
  go_ret
  exact ⟨rfl, HB1.out.trans ((HB2.out.mono HB1.out.size).trans (HB3.out.mono (Nat.le_trans HB1.out.size HB2.out.size)))⟩

end Go.Proofs.YtdaomkjlnakdcaaDoor
