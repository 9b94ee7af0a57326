/- Walks: deci.Number and Natural. Conditions: the table of powers of ten and the two sentinels read as listed. -/
import Derived.Test.YtiokdfkddcokoaaGreatDoorParse
namespace Go.Proofs.YtiokdfkddcokoaaGreatDoor
open Go.RowKit

/-- The pair that Number hands back, with new memory. -/
def GivesNumB (l : List UInt8) (w : World) (e : Ending) (w' : World) : Prop := e = .returned (.tuple #[.int .i64 (numS l).1, .bool (numS l).2]) ∧ Below w.heap.size w w'

set_option maxRecDepth 100000 in
set_option maxHeartbeats 1000000 in
theorem number_any (s : ByteArray) (B : Nat) (w : World) (hs : s.size ≤ 1048576) (hp : Pow B w) (he : Errs B w) (hB : B ≤ w.heap.size) : Calls Tryz.prog 65 #[.string s] w (GivesNumB s.data.toList w) := by
  by_cases hok : ∃ v, Lib.parseIntB 64 s.data.toList = .ok v
  · obtain ⟨v, hv⟩ := hok
    have HC := Lib.hid (parseInt_ok s v w hs hv)
    have hin := parseInt_in hv
    have HF := Lib.hid (fun W (hb : Below w.heap.size w W) => Tryz.strconv_FormatInt_10 v hin.1 hin.2 W (hp.on (hb.mono hB)).here)
    by_cases hx : s.data.toList = Lib.itoa v
    · have HN := Lib.hid (numS_yes hin hx)
      have hne := str_same hx
      clear hp he hB hv hin hx hs
      as_aux_lemma =>
        go_enter Tryz.func65, Tryz.ntmps65
        go_wp2_with fail
        (with_reducible refine HC.out.mono ?_)
        rintro e w1 ⟨rfl, hb1⟩
        have HB1 := Lib.hid hb1
        clear hb1
        go_wp2_with fail
        (with_reducible refine (HF.out _ HB1.out).mono ?_)
        rintro e w2 ⟨rfl, q, os, hw2⟩
        have HB2 := Lib.hid (show Below w.heap.size w w2 by rw [hw2]; exact HB1.out.trans (Lib.below_grow _ _ HB1.out.size _ _))
        clear hw2
        go_wp2_with fail
        go_ret2
        exact ⟨by rw [HN.out]; rfl, HB2.out⟩
    · have HN := Lib.hid (numS_no (l := s.data.toList) fun x hx' e => by
        rw [e, parseInt_itoa hx'] at hv
        injection hv with hv
        exact hx (by rw [e, hv]))
      have hne := str_other hx
      clear hp he hB hv hin hx hs
      as_aux_lemma =>
        go_enter Tryz.func65, Tryz.ntmps65
        go_wp2_with fail
        (with_reducible refine HC.out.mono ?_)
        rintro e w1 ⟨rfl, hb1⟩
        have HB1 := Lib.hid hb1
        clear hb1
        go_wp2_with fail
        (with_reducible refine (HF.out _ HB1.out).mono ?_)
        rintro e w2 ⟨rfl, q, os, hw2⟩
        have HB2 := Lib.hid (show Below w.heap.size w w2 by rw [hw2]; exact HB1.out.trans (Lib.below_grow _ _ HB1.out.size _ _))
        clear hw2
        go_wp2_with fail
        go_ret2
        exact ⟨by rw [HN.out]; rfl, HB2.out⟩
  · have hno : ∀ v, Lib.parseIntB 64 s.data.toList ≠ .ok v := fun v h => hok ⟨v, h⟩
    have HC := Lib.hid (parseInt_err s B w hs he hno)
    have HN := Lib.hid (numS_no (l := s.data.toList) fun x hx' e => hno x (by rw [e]; exact parseInt_itoa hx'))
    clear hp he hB hok hno hs
    as_aux_lemma =>
      go_enter Tryz.func65, Tryz.ntmps65
      go_wp2_with fail
      (with_reducible refine HC.out.mono ?_)
      rintro e w1 ⟨x, t, p, rfl, hb1⟩
      have HB1 := Lib.hid hb1
      clear hb1
      go_wp2_with fail
      go_ret2
      exact ⟨by rw [HN.out]; rfl, HB1.out⟩

/-- What Natural returns. -/
noncomputable def natS (l : List UInt8) (most : Int) : Int × Bool := if (numS l).2 = true ∧ 0 ≤ (numS l).1 ∧ (numS l).1 ≤ most then ((numS l).1, true) else (0, false)
def GivesNat (l : List UInt8) (most : Int) (w : World) (e : Ending) (w' : World) : Prop := e = .returned (.tuple #[.int .i64 (natS l most).1, .bool (natS l most).2]) ∧ Below w.heap.size w w'

set_option maxRecDepth 100000 in
set_option maxHeartbeats 1000000 in
theorem natural_any (s : ByteArray) (most : Int) (B : Nat) (w : World) (hs : s.size ≤ 1048576) (hp : Pow B w) (he : Errs B w) (hB : B ≤ w.heap.size) (hm : In64 most) : Calls Tryz.prog 49 #[.string s, .int .i64 most] w (GivesNat s.data.toList most w) := by
  have C := number_any s B w hs hp he hB
  have hin := (numS_in s.data.toList).1
  unfold GivesNumB at C
  unfold In64 at hin hm
  have hw : IntKind.i64.wrap most = most := IntWalk.i64_in _ hm
  have hw2 : IntKind.i64.wrap (numS s.data.toList).1 = (numS s.data.toList).1 := IntWalk.i64_in _ hin
  have HNAT := Lib.hid (show natS s.data.toList most = if (numS s.data.toList).2 = true ∧ 0 ≤ (numS s.data.toList).1 ∧ (numS s.data.toList).1 ≤ most then ((numS s.data.toList).1, true) else (0, false) from rfl)
  clear hs hp he hB hin hm
  generalize numS s.data.toList = p at C HNAT hw2
  obtain ⟨x, ok⟩ := p
  dsimp only at C HNAT hw2
  have HC := Lib.hid C
  clear C
  cases ok
  · have HN := Lib.hid (show natS s.data.toList most = (0, false) by rw [HNAT.out, if_neg (fun h => Bool.noConfusion h.1)])
    clear HNAT
    as_aux_lemma =>
      go_enter Tryz.func49, Tryz.ntmps49
      go_wp2_with fail
      (with_reducible refine HC.out.mono ?_)
      rintro e w1 ⟨rfl, hb1⟩
      have HB1 := Lib.hid hb1
      clear hb1
      go_wp2_with fail
      go_ret2
      exact ⟨by rw [HN.out]; rfl, HB1.out⟩
  by_cases h0 : x < 0
  · have HN := Lib.hid (show natS s.data.toList most = (0, false) by rw [HNAT.out, if_neg (fun h => by have := h.2.1; omega)])
    clear HNAT
    as_aux_lemma =>
      go_enter Tryz.func49, Tryz.ntmps49
      go_wp2_with fail
      (with_reducible refine HC.out.mono ?_)
      rintro e w1 ⟨rfl, hb1⟩
      have HB1 := Lib.hid hb1
      clear hb1
      go_wp2_with fail
      go_ret2
      exact ⟨by rw [HN.out]; rfl, HB1.out⟩
  by_cases h1 : most < x
  · have HN := Lib.hid (show natS s.data.toList most = (0, false) by rw [HNAT.out, if_neg (fun h => by have := h.2.2; omega)])
    clear HNAT
    as_aux_lemma =>
      go_enter Tryz.func49, Tryz.ntmps49
      go_wp2_with fail
      (with_reducible refine HC.out.mono ?_)
      rintro e w1 ⟨rfl, hb1⟩
      have HB1 := Lib.hid hb1
      clear hb1
      go_wp2_with fail
      go_ret2
      exact ⟨by rw [HN.out]; rfl, HB1.out⟩
  · have HN := Lib.hid (show natS s.data.toList most = (x, true) by rw [HNAT.out, if_pos ⟨rfl, by omega, by omega⟩])
    clear HNAT
    as_aux_lemma =>
      go_enter Tryz.func49, Tryz.ntmps49
      go_wp2_with fail
      (with_reducible refine HC.out.mono ?_)
      rintro e w1 ⟨rfl, hb1⟩
      have HB1 := Lib.hid hb1
      clear hb1
      go_wp2_with fail
      go_ret2
      exact ⟨by rw [HN.out]; rfl, HB1.out⟩

end Go.Proofs.YtiokdfkddcokoaaGreatDoor
