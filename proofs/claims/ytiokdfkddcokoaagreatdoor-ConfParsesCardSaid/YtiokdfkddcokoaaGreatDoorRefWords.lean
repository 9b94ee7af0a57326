/- Walks: the reference's Words. Conditions: none. -/
import Derived.Test.YtiokdfkddcokoaaGreatDoorDataPlain
import Derived.Test.YtiokdfkddcokoaaGreatDoorAppend
import Derived.Test.YtiokdfkddcokoaaGreatDoorOwn
import Derived.Test.YtiokdfkddcokoaaGreatDoorJoined
import Derived.Test.YtiokdfkddcokoaaGreatDoorDeciFrac
namespace Go.Proofs.YtiokdfkddcokoaaGreatDoor
open Go.RowKit

theorem cutAt_snoc (c b : UInt8) : ∀ (l : List UInt8) (W : List (List UInt8)) (t : List UInt8), cutAt c l = W ++ [t] → cutAt c (l ++ [b]) = if b = c then W ++ [t] ++ [[]] else W ++ [t ++ [b]]
  | [], W, t, h => by
    have h' : [[]] = W ++ [t] := h
    cases W with
    | nil =>
      injection h' with h1 _
      subst h1
      by_cases hb : b = c
      · simp [cutAt, hb]
      · simp [cutAt, hb]
    | cons x W => simp at h'
  | a :: l, W, t, h => by
    by_cases ha : a = c
    · simp only [cutAt, if_pos ha] at h
      cases W with
      | nil =>
        simp at h
        exact absurd h.2 (cutAt_ne c l)
      | cons x W =>
        simp at h
        obtain ⟨rfl, h2⟩ := h
        have ih := cutAt_snoc c b l W t h2
        simp only [List.cons_append, cutAt, if_pos ha, ih]
        split <;> rfl
    · cases hc : cutAt c l with
      | nil => exact absurd hc (cutAt_ne c l)
      | cons y ys =>
        simp only [cutAt, if_neg ha, hc] at h
        cases W with
        | nil =>
          simp at h
          obtain ⟨rfl, rfl⟩ := h
          have ih := cutAt_snoc c b l [] y (by rw [hc]; rfl)
          simp only [List.cons_append, cutAt, if_neg ha, ih]
          by_cases hb : b = c
          · simp [hb]
          · simp [hb]
        | cons x W =>
          simp at h
          obtain ⟨rfl, rfl⟩ := h
          have ih := cutAt_snoc c b l (y :: W) t (by rw [hc]; rfl)
          simp only [List.cons_append, cutAt, if_neg ha, ih]
          by_cases hb : b = c
          · simp [hb]
          · simp [hb]

/-- The words of a text, in a row of the call's own. -/
def GivesWords (l : List UInt8) (w : World) (e : Ending) (w' : World) : Prop :=
  ∃ (v : Value) (ws : List ByteArray), e = .returned v ∧ ws.map (·.data.toList) = cutAt 32 l ∧ w'.ownsRow w.heap.size 9 1 v ws.length (ws.map Value.string) ∧ Below w.heap.size w w'

theorem part_ext (s : ByteArray) (f k : Nat) : (s.extract f k).data.toList = (s.data.toList.take k).drop f := by
  rw [Lib.extract_data]
  simp [List.drop_take]

set_option maxRecDepth 100000 in
set_option maxHeartbeats 1000000 in
theorem refWords_any (s : ByteArray) (w : World) (hs : s.size ≤ 100000) : Calls Tryz.prog 21 #[.string s] w (GivesWords s.data.toList w) := by
  obtain ⟨i0, hi, hz0, hz1, hz2⟩ := info_parts infoStr
  have HI := Lib.hid (And.intro hi (And.intro hz0 (And.intro hz1 hz2)))
  have HS := Lib.hid (show s.data.toList.length = s.size from Array.length_toList)
  clear hi hz0 hz1 hz2
  go_enter Tryz.func21, Tryz.ntmps21
  go_wp2_with fail
  go_loopw [3, 4, 5] (fun v f i wr => ∃ (k n : Nat) (ws : List ByteArray), i = .int .i64 k ∧ f = .int .i64 n ∧ ws.length ≤ k ∧ Hid (wr.ownsRow w.heap.size 9 1 v ws.length (ws.map Value.string)) ∧ Hid (Below w.heap.size w wr) ∧
    ((k ≤ s.size ∧ n ≤ k ∧ Hid (cutAt 32 (s.data.toList.take k) = ws.map (·.data.toList) ++ [(s.data.toList.take k).drop n])) ∨ (k = s.size + 1 ∧ Hid (cutAt 32 s.data.toList = ws.map (·.data.toList))))) (fun _ _ i _ => s.size + 1 - (intOf i).toNat)
  case atStart => exact ⟨0, 0, [], rfl, rfl, Nat.zero_le _, Lib.hid (own_nil w w.heap.size 9 1), Lib.hid (Below.refl _ _), .inl ⟨Nat.zero_le _, Nat.zero_le _, Lib.hid (by simp [cutAt])⟩⟩
  case round =>
    obtain ⟨k, n, ws, rfl, rfl, hwk, HOk, HBk, hst⟩ := hrel
    rcases hst with ⟨hk, hn, HC⟩ | ⟨rfl, HC⟩
    · obtain ⟨m, hm⟩ : ∃ m, ws.length = m := ⟨_, rfl⟩
      rw [hm] at HOk hwk
      have HM := Lib.hid hm
      clear hm
      by_cases hke : k = s.size
      · subst hke
        have HX := Lib.hid (part_ext s n s.size)
        obtain ⟨x, hx⟩ : ∃ x, s.extract n s.size = x := ⟨_, rfl⟩
        rw [hx] at HX
        have HXE := Lib.hid hx
        clear hx
        go_wp2_with (at_builtin; refine wpList_append_own _ rfl _ _ 35 rfl w.heap.size 9 i0 (.string ByteArray.empty) 1 16 Tryz.underlying35 HI.out.1 HI.out.2.1 HI.out.2.2.1 HI.out.2.2.2 rfl (by decide) _ _ _ rfl (HOk.out.alloc _) ⟨wr.heap.size, 0, none⟩ 1 1 [.string (s.extract n s.size)] rfl rfl ?c1 ?c2 ?c3 ?c4 ?c5 ?_)
        case c1 =>
          intro j u hj
          match j, hj with
          | 0, hj => simp at hj; subst hj; simp [Addr.add]
        case c2 => intro u hu; simp at hu; subst hu; rfl
        case c3 => unfold maxLen; omega
        case c4 => omega
        case c5 => have := HBk.out.size; simp; omega
        intro v' w2 hown' hgrow _
        have HB2 := Lib.hid (below_own (HBk.out.alloc HBk.out.size _) (Nat.le_refl _) (Nat.le_refl _) (HOk.out.alloc _) hgrow)
        have HO2 := Lib.hid hown'
        clear hown' hgrow HBk HOk
        go_wp2_with fail
        go_roundw
        case rel =>
          refine ⟨s.size + 1, s.size + 1, ws ++ [s.extract n s.size], by go_num, by go_num, by simp; have := HM.out; omega, ?_, HB2, .inr ⟨rfl, Lib.hid ?_⟩⟩
          · have := HO2.out
            rw [← HM.out] at this
            exact Lib.hid (by simpa using this)
          · have := HC.out
            rw [List.take_of_length_le (by rw [HS.out]; omega)] at this
            rw [List.map_append, List.map_cons, List.map_nil, HXE.out, HX.out, List.take_of_length_le (by rw [HS.out]; omega)]
            exact this
        case measure => simp [intOf]
      · have hlt : k < s.size := by omega
        have hcs := cutAt_snoc 32 s[k] _ _ _ HC.out
        rw [← take_succ_str s k hlt] at hcs
        have hdr : (s.data.toList.take k).drop n ++ [s[k]] = (s.data.toList.take (k + 1)).drop n := by
          rw [take_succ_str s k hlt, List.drop_append_of_le_length]
          rw [List.length_take, HS.out]
          omega
        by_cases h32 : s[k] = 32
        · have hb : ((s[k].toNat : Int) == 32) = true := by rw [h32]; decide
          rw [if_pos h32] at hcs
          have hde : (s.data.toList.take (k + 1)).drop (k + 1) = [] := List.drop_eq_nil_of_le (by rw [List.length_take]; omega)
          have hx := part_ext s n k
          have HC2 := Lib.hid (show cutAt 32 (s.data.toList.take (k + 1)) = (ws ++ [s.extract n k]).map (·.data.toList) ++ [(s.data.toList.take (k + 1)).drop (k + 1)] by
            rw [hcs, hde, List.map_append, List.map_cons, List.map_nil, hx])
          clear hcs hdr h32 hde hx HC
          go_wp2_with (at_builtin; refine wpList_append_own _ rfl _ _ 35 rfl w.heap.size 9 i0 (.string ByteArray.empty) 1 16 Tryz.underlying35 HI.out.1 HI.out.2.1 HI.out.2.2.1 HI.out.2.2.2 rfl (by decide) _ _ _ rfl (HOk.out.alloc _) ⟨wr.heap.size, 0, none⟩ 1 1 [.string (s.extract n k)] rfl rfl ?c1 ?c2 ?c3 ?c4 ?c5 ?_)
          case c1 =>
            intro j u hj
            match j, hj with
            | 0, hj => simp at hj; subst hj; simp [Addr.add]
          case c2 => intro u hu; simp at hu; subst hu; rfl
          case c3 => unfold maxLen; omega
          case c4 => omega
          case c5 => have := HBk.out.size; simp; omega
          intro v' w2 hown' hgrow _
          have HB2 := Lib.hid (below_own (HBk.out.alloc HBk.out.size _) (Nat.le_refl _) (Nat.le_refl _) (HOk.out.alloc _) hgrow)
          have HO2 := Lib.hid hown'
          clear hown' hgrow HBk HOk
          go_wp2_with fail
          go_roundw
          case rel =>
            refine ⟨k + 1, k + 1, ws ++ [s.extract n k], by go_num, by go_num, by simp; have := HM.out; omega, ?_, HB2, .inl ⟨by omega, by omega, HC2⟩⟩
            have := HO2.out
            rw [← HM.out] at this
            exact Lib.hid (by simpa using this)
          case measure => simp [intOf]; omega
        · have hb : ((s[k].toNat : Int) == 32) = false := by
            rw [beq_eq_false_iff_ne]
            intro h
            have h2 : s[k].toNat = 32 := by omega
            exact h32 (UInt8.toNat_inj.1 h2)
          rw [if_neg h32, hdr] at hcs
          have HC2 := Lib.hid hcs
          clear hcs hdr h32 HC
          go_wp2_with fail
          go_roundw
          case rel => exact ⟨k + 1, n, ws, by go_num, rfl, by have := HM.out; omega, Lib.hid (by rw [HM.out]; exact HOk.out), HBk, .inl ⟨by omega, by omega, HC2⟩⟩
          case measure => simp [intOf]; omega
    · have HO := HOk
      go_wp2_with fail
      go_ret
      exact ⟨_, ws, rfl, HC.out.symm, HO.out, HBk.out⟩

end Go.Proofs.YtiokdfkddcokoaaGreatDoor
