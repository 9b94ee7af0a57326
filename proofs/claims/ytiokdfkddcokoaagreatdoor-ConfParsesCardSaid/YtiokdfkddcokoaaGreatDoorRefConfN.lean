/- Walks: the reference's number and numbers. Conditions: none. -/
import Derived.Test.YtiokdfkddcokoaaGreatDoorConfRead
import Derived.Test.YtiokdfkddcokoaaGreatDoorRefWords
import Derived.Test.YtiokdfkddcokoaaGreatDoorRefNumber
namespace Go.Proofs.YtiokdfkddcokoaaGreatDoor
open Go.RowKit

/-- The number that the reference reads. -/
noncomputable def nOf (l : List UInt8) : Int := (natS l 1048576).1

set_option maxRecDepth 100000 in
set_option maxHeartbeats 2000000 in
theorem number_one (s : ByteArray) (w : World) (hs : s.size ≤ 1048576) : Calls Tryz.prog 23 #[.string s] w fun e w' => e = .returned (.int .i64 (nOf s.data.toList)) ∧ w = w' := by
  have C := refNumber_any s w hs
  have hin := (numS_in s.data.toList).1
  unfold GivesNum at C
  unfold In64 at hin
  have HNAT := Lib.hid (show nOf s.data.toList = (if (numS s.data.toList).2 = true ∧ 0 ≤ (numS s.data.toList).1 ∧ (numS s.data.toList).1 ≤ 1048576 then ((numS s.data.toList).1, true) else (0, false)).1 from rfl)
  generalize numS s.data.toList = p at C HNAT hin
  generalize nOf s.data.toList = r at HNAT ⊢
  obtain ⟨x, ok⟩ := p
  dsimp only at C HNAT hin
  obtain ⟨hi0, hi1⟩ := hin
  have HC := Lib.hid C
  clear C
  have key : (∃ (_ : ok = false), r = 0) ∨ (∃ (_ : ok = true) (_ : x < 0), r = 0) ∨ (∃ (_ : ok = true) (_ : 0 ≤ x) (_ : 1048576 < x), r = 0) ∨ (∃ (_ : ok = true) (_ : 0 ≤ x) (_ : x ≤ 1048576), r = x) := by
    have h := HNAT.out
    cases ok
    · exact .inl ⟨rfl, by rw [h, if_neg (fun h => Bool.noConfusion h.1)]⟩
    · by_cases h0 : 0 ≤ x
      · by_cases h1 : x ≤ 1048576
        · exact .inr (.inr (.inr ⟨rfl, h0, h1, by rw [h, if_pos ⟨rfl, h0, h1⟩]⟩))
        · exact .inr (.inr (.inl ⟨rfl, h0, by omega, by rw [h, if_neg (fun h => h1 h.2.2)]⟩))
      · exact .inr (.inl ⟨rfl, by omega, by rw [h, if_neg (fun h => h0 h.2.1)]⟩)
  clear HNAT
  rcases key with ⟨rfl, rfl⟩ | ⟨rfl, h0, rfl⟩ | ⟨rfl, h0, h1, rfl⟩ | ⟨rfl, h0, h1, rfl⟩
  all_goals
    go_enter Tryz.func23, Tryz.ntmps23
    go_wp2_with fail
    (with_reducible refine HC.out.mono ?_)
    rintro e w1 ⟨rfl, rfl⟩
    go_wp2_with fail
    go_ret
    exact ⟨rfl, rfl⟩

def GivesInts (l : List UInt8) (w : World) (e : Ending) (w' : World) : Prop :=
  ∃ v : Value, e = .returned v ∧ w'.ownsRow w.heap.size 3 1 v (cutAt 44 l).length (((cutAt 44 l).map nOf).map (Value.int .i64)) ∧ Below w.heap.size w w'

set_option maxRecDepth 100000 in
set_option maxHeartbeats 4000000 in
theorem numbers_any (s : ByteArray) (w : World) (hs : s.size ≤ 100000) : Calls Tryz.prog 22 #[.string s] w (GivesInts s.data.toList w) := by
  obtain ⟨i0, hi, hz0, hz1, hz2⟩ := info_parts infoInt
  have HI := Lib.hid (And.intro hi (And.intro hz0 (And.intro hz1 hz2)))
  have HS := Lib.hid (show s.data.toList.length = s.size from Array.length_toList)
  have HNM := Lib.hid (fun (n k : Nat) W => number_one (s.extract n k) W (by rw [ByteArray.size_extract]; omega))
  clear hi hz0 hz1 hz2
  go_enter Tryz.func22, Tryz.ntmps22
  go_wp2_with fail
  go_loopw [3, 4, 5] (fun v f i wr => ∃ (k n : Nat) (ws : List (List UInt8)), i = .int .i64 k ∧ f = .int .i64 n ∧ ws.length ≤ k ∧ Hid (wr.ownsRow w.heap.size 3 1 v ws.length ((ws.map nOf).map (Value.int .i64))) ∧ Hid (Below w.heap.size w wr) ∧
    ((k ≤ s.size ∧ n ≤ k ∧ Hid (cutAt 44 (s.data.toList.take k) = ws ++ [(s.data.toList.take k).drop n])) ∨ (k = s.size + 1 ∧ Hid (cutAt 44 s.data.toList = ws)))) (fun _ _ i _ => s.size + 1 - (intOf i).toNat)
  case atStart => exact ⟨0, 0, [], rfl, rfl, Nat.zero_le _, Lib.hid (own_nil w w.heap.size 3 1), Lib.hid (Below.refl _ _), .inl ⟨Nat.zero_le _, Nat.zero_le _, Lib.hid (by simp [cutAt])⟩⟩
  case round =>
    obtain ⟨k, n, ws, rfl, rfl, hwk, HOk, HBk, hst⟩ := hrel
    rcases hst with ⟨hk, hn, HC⟩ | ⟨rfl, HC⟩
    · obtain ⟨m, hm⟩ : ∃ m, ws.length = m := ⟨_, rfl⟩
      rw [hm] at HOk hwk
      have HM := Lib.hid hm
      clear hm
      by_cases hke : k = s.size
      · subst hke
        have HX := Lib.hid (part_ext s n s.size)
        have HNx := Lib.hid (HNM.out n s.size)
        obtain ⟨r, hr⟩ : ∃ r, nOf (s.extract n s.size).data.toList = r := ⟨_, rfl⟩
        rw [hr] at HNx
        have HRX := Lib.hid hr
        clear hr
        go_wp2_with fail
        (with_reducible refine (HNx.out _).mono ?_)
        rintro e w2 ⟨rfl, rfl⟩
        go_wp2_with (at_builtin; refine wpList_append_own _ rfl _ _ 22 rfl w.heap.size 3 i0 (.int .i64 0) 1 8 Tryz.underlying22 HI.out.1 HI.out.2.1 HI.out.2.2.1 HI.out.2.2.2 rfl (by decide) _ _ _ rfl (HOk.out.alloc _) ⟨wr.heap.size, 0, none⟩ 1 1 [.int .i64 r] rfl rfl ?c1 ?c2 ?c3 ?c4 ?c5 ?_)
        case c1 =>
          intro j u hj
          match j, hj with
          | 0, hj => simp at hj; subst hj; simp [Addr.add]
        case c2 => intro u hu; simp at hu; subst hu; rfl
        case c3 => unfold maxLen; omega
        case c4 => omega
        case c5 => have := HBk.out.size; simp; omega
        intro v' w2 hown' hgrow _
        have HB2 := Lib.hid (below_own (HBk.out.alloc HBk.out.size _) (Nat.le_refl _) (Nat.le_refl _) (HOk.out.alloc _) hgrow)
        have HO2 := Lib.hid hown'
        clear hown' hgrow HBk HOk
        go_wp2_with fail
        go_roundw
        case rel =>
          refine ⟨s.size + 1, s.size + 1, ws ++ [(s.extract n s.size).data.toList], by go_num, by go_num, by simp; have := HM.out; omega, ?_, HB2, .inr ⟨rfl, Lib.hid ?_⟩⟩
          · have := HO2.out
            rw [← HM.out, ← HRX.out] at this
            exact Lib.hid (by simpa using this)
          · have := HC.out
            rw [List.take_of_length_le (by rw [HS.out]; omega)] at this
            rw [HX.out, List.take_of_length_le (by rw [HS.out]; omega)]
            exact this
        case measure => simp [intOf]
      · have hlt : k < s.size := by omega
        have hcs := cutAt_snoc 44 s[k] _ _ _ HC.out
        rw [← take_succ_str s k hlt] at hcs
        have hdr : (s.data.toList.take k).drop n ++ [s[k]] = (s.data.toList.take (k + 1)).drop n := by
          rw [take_succ_str s k hlt, List.drop_append_of_le_length]
          rw [List.length_take, HS.out]
          omega
        by_cases h44 : s[k] = 44
        · have hb : ((s[k].toNat : Int) == 44) = true := by rw [h44]; decide
          rw [if_pos h44] at hcs
          have hde : (s.data.toList.take (k + 1)).drop (k + 1) = [] := List.drop_eq_nil_of_le (by rw [List.length_take]; omega)
          have hx := part_ext s n k
          have HC2 := Lib.hid (show cutAt 44 (s.data.toList.take (k + 1)) = (ws ++ [(s.extract n k).data.toList]) ++ [(s.data.toList.take (k + 1)).drop (k + 1)] by
            rw [hcs, hde, hx])
          have HNx := Lib.hid (HNM.out n k)
          obtain ⟨r, hr⟩ : ∃ r, nOf (s.extract n k).data.toList = r := ⟨_, rfl⟩
          rw [hr] at HNx
          have HRX := Lib.hid hr
          clear hcs hdr h44 hde hx HC hr
          go_wp2_with fail
          (with_reducible refine (HNx.out _).mono ?_)
          rintro e w2 ⟨rfl, rfl⟩
          go_wp2_with (at_builtin; refine wpList_append_own _ rfl _ _ 22 rfl w.heap.size 3 i0 (.int .i64 0) 1 8 Tryz.underlying22 HI.out.1 HI.out.2.1 HI.out.2.2.1 HI.out.2.2.2 rfl (by decide) _ _ _ rfl (HOk.out.alloc _) ⟨wr.heap.size, 0, none⟩ 1 1 [.int .i64 r] rfl rfl ?c1 ?c2 ?c3 ?c4 ?c5 ?_)
          case c1 =>
            intro j u hj
            match j, hj with
            | 0, hj => simp at hj; subst hj; simp [Addr.add]
          case c2 => intro u hu; simp at hu; subst hu; rfl
          case c3 => unfold maxLen; omega
          case c4 => omega
          case c5 => have := HBk.out.size; simp; omega
          intro v' w2 hown' hgrow _
          have HB2 := Lib.hid (below_own (HBk.out.alloc HBk.out.size _) (Nat.le_refl _) (Nat.le_refl _) (HOk.out.alloc _) hgrow)
          have HO2 := Lib.hid hown'
          clear hown' hgrow HBk HOk
          go_wp2_with fail
          go_roundw
          case rel =>
            refine ⟨k + 1, k + 1, ws ++ [(s.extract n k).data.toList], by go_num, by go_num, by simp; have := HM.out; omega, ?_, HB2, .inl ⟨by omega, by omega, HC2⟩⟩
            have := HO2.out
            rw [← HM.out, ← HRX.out] at this
            exact Lib.hid (by simpa using this)
          case measure => simp [intOf]; omega
        · have hb : ((s[k].toNat : Int) == 44) = false := by
            rw [beq_eq_false_iff_ne]
            intro h
            have h2 : s[k].toNat = 44 := by omega
            exact h44 (UInt8.toNat_inj.1 h2)
          rw [if_neg h44, hdr] at hcs
          have HC2 := Lib.hid hcs
          clear hcs hdr h44 HC
          go_wp2_with fail
          go_roundw
          case rel => exact ⟨k + 1, n, ws, by go_num, rfl, by have := HM.out; omega, Lib.hid (by rw [HM.out]; exact HOk.out), HBk, .inl ⟨by omega, by omega, HC2⟩⟩
          case measure => simp [intOf]; omega
    · have HO := HOk
      have HCC := Lib.hid HC.out
      clear HC
      go_wp2_with fail
      go_ret
      exact ⟨_, rfl, by rw [HCC.out]; exact HO.out, HBk.out⟩

end Go.Proofs.YtiokdfkddcokoaaGreatDoor
