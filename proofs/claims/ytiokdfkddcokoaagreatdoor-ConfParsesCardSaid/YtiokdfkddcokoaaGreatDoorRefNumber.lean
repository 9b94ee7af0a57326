/- Walks: the reference's Number. Conditions: none. -/
import Derived.Test.YtiokdfkddcokoaaGreatDoorParse
import Derived.Test.YtiokdfkddcokoaaGreatDoorRefDecimal
import Derived.Lib.IndexBytes
namespace Go.Proofs.YtiokdfkddcokoaaGreatDoor
open Go.RowKit

/-- The pair that Number hands back. -/
def GivesNum (l : List UInt8) (w : World) (e : Ending) (w' : World) : Prop := e = .returned (.tuple #[.int .i64 (numS l).1, .bool (numS l).2]) ∧ w = w'

theorem numX_true (d : List UInt8) : numX true d = -((valF 0 d).1 : Int) := by unfold numX; rw [if_pos rfl]
theorem numX_false (d : List UInt8) : numX false d = wrap64 ((valF 0 d).1 : Int) := by unfold numX; rw [if_neg (fun h => Bool.noConfusion h)]

theorem neg_words (n : Nat) (h : n ≤ 9223372036854775808) : IntKind.i64.wrap (IntKind.u64.wrap (-(n : Int))) = -(n : Int) ∧ IntKind.i64.wrap (n : Int) = wrap64 n := by
  rw [IntKind.wrap_u64, IntKind.wrap_i64, IntKind.wrap_i64]
  unfold wrap64
  omega

set_option maxRecDepth 100000 in
set_option maxHeartbeats 1000000 in
theorem refNumber_neg (s : ByteArray) (w : World) (hs : s.size ≤ 1048576) (h0 : 0 < s.size) (h45 : s[0] = 45) : Calls Tryz.prog 38 #[.string s] w (GivesNum s.data.toList w) := by
  have hd : s.data.toList = (if true then [45] else []) ++ (s.extract 1 s.size).data.toList := by
    have := drop_at s 0 h0
    rw [List.drop_zero, h45] at this
    rw [Lib.extract_to_end]
    exact this
  have hsz : (s.extract 1 s.size).size = s.size - 1 := by rw [ByteArray.size_extract]; omega
  obtain ⟨d, hde⟩ : ∃ d, s.extract 1 s.size = d := ⟨_, rfl⟩
  rw [hde] at hd hsz
  have hh : true = false → s.data.toList.head? ≠ some 45 := fun h => Bool.noConfusion h
  have hb : ((s[0].toNat : Int) == 45) = true := by rw [h45]; decide
  have hp : (0 : Int) < (s.size : Int) := by omega
  have hp1 : (1 : Int) ≤ (s.size : Int) := by omega
  have hlt : (d.size : Int) < (s.size : Int) := by omega
  have hds : d.size ≤ 1048576 := by omega
  clear h45
  have hlen : d.data.toList.length = d.size := Array.length_toList
  have HV := value_any d w hds
  have HG := digits_any d w hds
  have hbad := num_bad hd hh
  have hsame := num_same (neg := true) (d := d.data.toList) (l := s.data.toList)
  have hother := num_other hd hh
  have hle := valF_le d.data.toList 0
  have hnx : numX true d.data.toList = -((valF 0 d.data.toList).1 : Int) := numX_true _
  have hin := fun h => numX_in (neg := true) (d := d.data.toList) h
  rw [hlen] at hbad
  generalize hx : numX true d.data.toList = x at *
  obtain ⟨dg, hdg⟩ : ∃ dg, digsOk d.data.toList = dg := ⟨_, rfl⟩
  obtain ⟨p, hpv⟩ : ∃ p, valF 0 d.data.toList = p := ⟨_, rfl⟩
  rw [hdg] at HG hbad
  rw [hpv] at HV hbad hsame hle hnx hin
  obtain ⟨n, ok⟩ := p
  dsimp only at hbad hsame hle hnx hin
  have HBAD := Lib.hid hbad
  have HSAME := Lib.hid hsame
  have HOTHER := Lib.hid hother
  have HLE := Lib.hid hle
  have HNX := Lib.hid hnx
  have HIN := Lib.hid hin
  have HV' := Lib.hid HV
  have HG' := Lib.hid HG
  clear hbad hsame hother hle hnx hin HV HG hx hdg hpv hd hh hlen hds hs
  cases dg
  · have HN := Lib.hid (HBAD.out (fun h => Bool.noConfusion h.1))
    have HDEC : Hid True := Lib.hid trivial
    as_aux_lemma =>
      go_enter Tryz.func38, Tryz.ntmps38
      go_wp2_with (first
        | (go_at_call 39; (with_reducible refine HV'.out.mono ?_); rintro e w1 ⟨rfl, rfl⟩)
        | (go_at_call 40; (with_reducible refine HG'.out.mono ?_); rintro e w1 ⟨rfl, rfl⟩)
        | (go_at_call 62; (with_reducible refine HDEC.out.mono ?_); rintro e w1 ⟨rfl, rfl⟩))
      go_ret2
      exact ⟨by rw [HN.out]; rfl, rfl⟩
  cases ok
  · have HN := Lib.hid (HBAD.out (fun h => Bool.noConfusion h.2.1))
    have HDEC : Hid True := Lib.hid trivial
    as_aux_lemma =>
      go_enter Tryz.func38, Tryz.ntmps38
      go_wp2_with (first
        | (go_at_call 39; (with_reducible refine HV'.out.mono ?_); rintro e w1 ⟨rfl, rfl⟩)
        | (go_at_call 40; (with_reducible refine HG'.out.mono ?_); rintro e w1 ⟨rfl, rfl⟩)
        | (go_at_call 62; (with_reducible refine HDEC.out.mono ?_); rintro e w1 ⟨rfl, rfl⟩))
      go_ret2
      exact ⟨by rw [HN.out]; rfl, rfl⟩
  by_cases hl : d.size ≤ 19
  · have hl' : ¬ (19 : Int) < (d.size : Int) := by omega
    have hn := HLE.out rfl
    obtain ⟨k1, k2⟩ := neg_words n hn
    have HDEC := Lib.hid (decimal_any x w (HIN.out rfl))
    replace k1 := k1.trans HNX.out.symm
    clear hl k2 hn
    by_cases he : s.data.toList = Lib.itoa x
    · have HN := Lib.hid (HSAME.out rfl he)
      have hne := str_same he
      clear he
      as_aux_lemma =>
        go_enter Tryz.func38, Tryz.ntmps38
        go_wp2_with (first
          | (go_at_call 39; (with_reducible refine HV'.out.mono ?_); rintro e w1 ⟨rfl, rfl⟩)
          | (go_at_call 40; (with_reducible refine HG'.out.mono ?_); rintro e w1 ⟨rfl, rfl⟩)
          | (go_at_call 62; (with_reducible refine HDEC.out.mono ?_); rintro e w1 ⟨rfl, rfl⟩))
        go_ret2
        exact ⟨by rw [HN.out]; rfl, rfl⟩
    · have HN := Lib.hid (HOTHER.out he)
      have hne := str_other he
      clear he
      as_aux_lemma =>
        go_enter Tryz.func38, Tryz.ntmps38
        go_wp2_with (first
          | (go_at_call 39; (with_reducible refine HV'.out.mono ?_); rintro e w1 ⟨rfl, rfl⟩)
          | (go_at_call 40; (with_reducible refine HG'.out.mono ?_); rintro e w1 ⟨rfl, rfl⟩)
          | (go_at_call 62; (with_reducible refine HDEC.out.mono ?_); rintro e w1 ⟨rfl, rfl⟩))
        go_ret2
        exact ⟨by rw [HN.out]; rfl, rfl⟩
  · have hl' : (19 : Int) < (d.size : Int) := by omega
    have HN := Lib.hid (HBAD.out (fun h => hl h.2.2))
    have HDEC : Hid True := Lib.hid trivial
    clear hl
    as_aux_lemma =>
      go_enter Tryz.func38, Tryz.ntmps38
      go_wp2_with (first
        | (go_at_call 39; (with_reducible refine HV'.out.mono ?_); rintro e w1 ⟨rfl, rfl⟩)
        | (go_at_call 40; (with_reducible refine HG'.out.mono ?_); rintro e w1 ⟨rfl, rfl⟩)
        | (go_at_call 62; (with_reducible refine HDEC.out.mono ?_); rintro e w1 ⟨rfl, rfl⟩))
      go_ret2
      exact ⟨by rw [HN.out]; rfl, rfl⟩

set_option maxRecDepth 100000 in
set_option maxHeartbeats 1000000 in
theorem refNumber_pos (s : ByteArray) (w : World) (hs : s.size ≤ 1048576) (h0 : 0 < s.size) (h45 : s[0] ≠ 45) : Calls Tryz.prog 38 #[.string s] w (GivesNum s.data.toList w) := by
  have hd : s.data.toList = (if false then [45] else []) ++ s.data.toList := by simp
  have hh : false = false → s.data.toList.head? ≠ some 45 := fun _ h => by
    have := drop_at s 0 h0
    rw [List.drop_zero] at this
    rw [this] at h
    simp at h
    exact h45 h
  have hp : (0 : Int) < (s.size : Int) := by omega
  have hb : ((s[0].toNat : Int) == 45) = false := by
    rw [beq_eq_false_iff_ne]
    intro h
    have h2 : s[0].toNat = 45 := by omega
    exact h45 (UInt8.toNat_inj.1 h2)
  have hds : s.size ≤ 1048576 := hs
  have hlt : ¬ (s.size : Int) < (s.size : Int) := by omega
  have hlen : s.data.toList.length = s.size := Array.length_toList
  have HV := value_any s w hds
  have HG := digits_any s w hds
  have hbad := num_bad hd hh
  have hsame := num_same (neg := false) (d := s.data.toList) (l := s.data.toList)
  have hother := num_other hd hh
  have hle := valF_le s.data.toList 0
  have hnx : numX false s.data.toList = wrap64 ((valF 0 s.data.toList).1 : Int) := numX_false _
  have hin := fun h => numX_in (neg := false) (d := s.data.toList) h
  rw [hlen] at hbad
  generalize hx : numX false s.data.toList = x at *
  obtain ⟨dg, hdg⟩ : ∃ dg, digsOk s.data.toList = dg := ⟨_, rfl⟩
  obtain ⟨p, hpv⟩ : ∃ p, valF 0 s.data.toList = p := ⟨_, rfl⟩
  rw [hdg] at HG hbad
  rw [hpv] at HV hbad hsame hle hnx hin
  obtain ⟨n, ok⟩ := p
  dsimp only at hbad hsame hle hnx hin
  have HBAD := Lib.hid hbad
  have HSAME := Lib.hid hsame
  have HOTHER := Lib.hid hother
  have HLE := Lib.hid hle
  have HNX := Lib.hid hnx
  have HIN := Lib.hid hin
  have HV' := Lib.hid HV
  have HG' := Lib.hid HG
  clear hbad hsame hother hle hnx hin HV HG hx hdg hpv hd hh hlen hds hs
  cases dg
  · have HN := Lib.hid (HBAD.out (fun h => Bool.noConfusion h.1))
    have HDEC : Hid True := Lib.hid trivial
    as_aux_lemma =>
      go_enter Tryz.func38, Tryz.ntmps38
      go_wp2_with (first
        | (go_at_call 39; (with_reducible refine HV'.out.mono ?_); rintro e w1 ⟨rfl, rfl⟩)
        | (go_at_call 40; (with_reducible refine HG'.out.mono ?_); rintro e w1 ⟨rfl, rfl⟩)
        | (go_at_call 62; (with_reducible refine HDEC.out.mono ?_); rintro e w1 ⟨rfl, rfl⟩))
      go_ret2
      exact ⟨by rw [HN.out]; rfl, rfl⟩
  cases ok
  · have HN := Lib.hid (HBAD.out (fun h => Bool.noConfusion h.2.1))
    have HDEC : Hid True := Lib.hid trivial
    as_aux_lemma =>
      go_enter Tryz.func38, Tryz.ntmps38
      go_wp2_with (first
        | (go_at_call 39; (with_reducible refine HV'.out.mono ?_); rintro e w1 ⟨rfl, rfl⟩)
        | (go_at_call 40; (with_reducible refine HG'.out.mono ?_); rintro e w1 ⟨rfl, rfl⟩)
        | (go_at_call 62; (with_reducible refine HDEC.out.mono ?_); rintro e w1 ⟨rfl, rfl⟩))
      go_ret2
      exact ⟨by rw [HN.out]; rfl, rfl⟩
  by_cases hl : s.size ≤ 19
  · have hl' : ¬ (19 : Int) < (s.size : Int) := by omega
    have hn := HLE.out rfl
    obtain ⟨k1, k2⟩ := neg_words n hn
    have HDEC := Lib.hid (decimal_any x w (HIN.out rfl))
    replace k2 := k2.trans HNX.out.symm
    clear hl k1 hn
    by_cases he : s.data.toList = Lib.itoa x
    · have HN := Lib.hid (HSAME.out rfl he)
      have hne := str_same he
      clear he
      as_aux_lemma =>
        go_enter Tryz.func38, Tryz.ntmps38
        go_wp2_with (first
          | (go_at_call 39; (with_reducible refine HV'.out.mono ?_); rintro e w1 ⟨rfl, rfl⟩)
          | (go_at_call 40; (with_reducible refine HG'.out.mono ?_); rintro e w1 ⟨rfl, rfl⟩)
          | (go_at_call 62; (with_reducible refine HDEC.out.mono ?_); rintro e w1 ⟨rfl, rfl⟩))
        go_ret2
        exact ⟨by rw [HN.out]; rfl, rfl⟩
    · have HN := Lib.hid (HOTHER.out he)
      have hne := str_other he
      clear he
      as_aux_lemma =>
        go_enter Tryz.func38, Tryz.ntmps38
        go_wp2_with (first
          | (go_at_call 39; (with_reducible refine HV'.out.mono ?_); rintro e w1 ⟨rfl, rfl⟩)
          | (go_at_call 40; (with_reducible refine HG'.out.mono ?_); rintro e w1 ⟨rfl, rfl⟩)
          | (go_at_call 62; (with_reducible refine HDEC.out.mono ?_); rintro e w1 ⟨rfl, rfl⟩))
        go_ret2
        exact ⟨by rw [HN.out]; rfl, rfl⟩
  · have hl' : (19 : Int) < (s.size : Int) := by omega
    have HN := Lib.hid (HBAD.out (fun h => hl h.2.2))
    have HDEC : Hid True := Lib.hid trivial
    clear hl
    as_aux_lemma =>
      go_enter Tryz.func38, Tryz.ntmps38
      go_wp2_with (first
        | (go_at_call 39; (with_reducible refine HV'.out.mono ?_); rintro e w1 ⟨rfl, rfl⟩)
        | (go_at_call 40; (with_reducible refine HG'.out.mono ?_); rintro e w1 ⟨rfl, rfl⟩)
        | (go_at_call 62; (with_reducible refine HDEC.out.mono ?_); rintro e w1 ⟨rfl, rfl⟩))
      go_ret2
      exact ⟨by rw [HN.out]; rfl, rfl⟩

set_option maxRecDepth 100000 in
set_option maxHeartbeats 1000000 in
theorem refNumber_nil (s : ByteArray) (w : World) (hs : s.size ≤ 1048576) (h0 : s.size = 0) : Calls Tryz.prog 38 #[.string s] w (GivesNum s.data.toList w) := by
  have hd : s.data.toList = (if false then [45] else []) ++ s.data.toList := by simp
  have hh : false = false → s.data.toList.head? ≠ some 45 := fun _ h => by
    have : s.data.toList = [] := List.eq_nil_of_length_eq_zero (by rw [Array.length_toList]; exact h0)
    rw [this] at h
    cases h
  have hp : ¬ (0 : Int) < (s.size : Int) := by omega
  have hds : s.size ≤ 1048576 := hs
  have hlt : ¬ (s.size : Int) < (s.size : Int) := by omega
  have hlen : s.data.toList.length = s.size := Array.length_toList
  have HV := value_any s w hds
  have HG := digits_any s w hds
  have hbad := num_bad hd hh
  have hsame := num_same (neg := false) (d := s.data.toList) (l := s.data.toList)
  have hother := num_other hd hh
  have hle := valF_le s.data.toList 0
  have hnx : numX false s.data.toList = wrap64 ((valF 0 s.data.toList).1 : Int) := numX_false _
  have hin := fun h => numX_in (neg := false) (d := s.data.toList) h
  rw [hlen] at hbad
  generalize hx : numX false s.data.toList = x at *
  obtain ⟨dg, hdg⟩ : ∃ dg, digsOk s.data.toList = dg := ⟨_, rfl⟩
  obtain ⟨p, hpv⟩ : ∃ p, valF 0 s.data.toList = p := ⟨_, rfl⟩
  rw [hdg] at HG hbad
  rw [hpv] at HV hbad hsame hle hnx hin
  obtain ⟨n, ok⟩ := p
  dsimp only at hbad hsame hle hnx hin
  have HBAD := Lib.hid hbad
  have HSAME := Lib.hid hsame
  have HOTHER := Lib.hid hother
  have HLE := Lib.hid hle
  have HNX := Lib.hid hnx
  have HIN := Lib.hid hin
  have HV' := Lib.hid HV
  have HG' := Lib.hid HG
  clear hbad hsame hother hle hnx hin HV HG hx hdg hpv hd hh hlen hds hs
  cases dg
  · have HN := Lib.hid (HBAD.out (fun h => Bool.noConfusion h.1))
    have HDEC : Hid True := Lib.hid trivial
    as_aux_lemma =>
      go_enter Tryz.func38, Tryz.ntmps38
      go_wp2_with (first
        | (go_at_call 39; (with_reducible refine HV'.out.mono ?_); rintro e w1 ⟨rfl, rfl⟩)
        | (go_at_call 40; (with_reducible refine HG'.out.mono ?_); rintro e w1 ⟨rfl, rfl⟩)
        | (go_at_call 62; (with_reducible refine HDEC.out.mono ?_); rintro e w1 ⟨rfl, rfl⟩))
      go_ret2
      exact ⟨by rw [HN.out]; rfl, rfl⟩
  cases ok
  · have HN := Lib.hid (HBAD.out (fun h => Bool.noConfusion h.2.1))
    have HDEC : Hid True := Lib.hid trivial
    as_aux_lemma =>
      go_enter Tryz.func38, Tryz.ntmps38
      go_wp2_with (first
        | (go_at_call 39; (with_reducible refine HV'.out.mono ?_); rintro e w1 ⟨rfl, rfl⟩)
        | (go_at_call 40; (with_reducible refine HG'.out.mono ?_); rintro e w1 ⟨rfl, rfl⟩)
        | (go_at_call 62; (with_reducible refine HDEC.out.mono ?_); rintro e w1 ⟨rfl, rfl⟩))
      go_ret2
      exact ⟨by rw [HN.out]; rfl, rfl⟩
  by_cases hl : s.size ≤ 19
  · have hl' : ¬ (19 : Int) < (s.size : Int) := by omega
    have hn := HLE.out rfl
    obtain ⟨k1, k2⟩ := neg_words n hn
    have HDEC := Lib.hid (decimal_any x w (HIN.out rfl))
    replace k2 := k2.trans HNX.out.symm
    clear hl k1 hn
    by_cases he : s.data.toList = Lib.itoa x
    · have HN := Lib.hid (HSAME.out rfl he)
      have hne := str_same he
      clear he
      as_aux_lemma =>
        go_enter Tryz.func38, Tryz.ntmps38
        go_wp2_with (first
          | (go_at_call 39; (with_reducible refine HV'.out.mono ?_); rintro e w1 ⟨rfl, rfl⟩)
          | (go_at_call 40; (with_reducible refine HG'.out.mono ?_); rintro e w1 ⟨rfl, rfl⟩)
          | (go_at_call 62; (with_reducible refine HDEC.out.mono ?_); rintro e w1 ⟨rfl, rfl⟩))
        go_ret2
        exact ⟨by rw [HN.out]; rfl, rfl⟩
    · have HN := Lib.hid (HOTHER.out he)
      have hne := str_other he
      clear he
      as_aux_lemma =>
        go_enter Tryz.func38, Tryz.ntmps38
        go_wp2_with (first
          | (go_at_call 39; (with_reducible refine HV'.out.mono ?_); rintro e w1 ⟨rfl, rfl⟩)
          | (go_at_call 40; (with_reducible refine HG'.out.mono ?_); rintro e w1 ⟨rfl, rfl⟩)
          | (go_at_call 62; (with_reducible refine HDEC.out.mono ?_); rintro e w1 ⟨rfl, rfl⟩))
        go_ret2
        exact ⟨by rw [HN.out]; rfl, rfl⟩
  · exact absurd h0 (by omega)

theorem refNumber_any (s : ByteArray) (w : World) (hs : s.size ≤ 1048576) : Calls Tryz.prog 38 #[.string s] w (GivesNum s.data.toList w) := by
  by_cases h0 : 0 < s.size
  · by_cases h45 : s[0] = 45
    · exact refNumber_neg s w hs h0 h45
    · exact refNumber_pos s w hs h0 h45
  · exact refNumber_nil s w hs (by omega)

end Go.Proofs.YtiokdfkddcokoaaGreatDoor
