/- Walks: the text of a tag, and the digits of a text, by the reference. Conditions: none. -/
import Derived.Test.YtajilipbnfpemaaDoorRefTag
import Derived.Test.YtajilipbnfpemaaDoorRefNum
import Derived.Test.YtajilipbnfpemaaDoorTagText
import Derived.BigQuiet
namespace Go.Proofs.YtajilipbnfpemaaDoor
open Go.RowKit

theorem number17_any (n : Nat) (h : n < 9223372036854775808) (w : World) : Calls Tryd.prog 70 #[.int .i64 n] w fun e w' => e = .returned (.string ⟨(Lib.decDigits n).toArray⟩) ∧ w = w' := by
  have HU := Lib.hid (unsigned_any n w (by omega))
  have hw : IntKind.u64.wrap (n : Int) = (n : Int) := by rw [IntKind.wrap_u64]; omega
  go_enter Tryd.func70, Tryd.ntmps70
  go_wp2_with fail
  (with_reducible refine HU.out.mono ?_)
  rintro e w1 ⟨rfl, rfl⟩
  go_wp2_with fail
  go_ret
  exact ⟨rfl, rfl⟩

theorem refTagText_no (t : Tg) (h : ¬ tagOk t) (w : World) : Calls Tryd.prog 43 #[tgV t] w fun e w' => e = .returned (.string ⟨#[]⟩) ∧ Below w.heap.size w w' := by
  have HR := Lib.hid (fun W => refRight_any t W)
  rw [decide_eq_false h] at HR
  clear h
  obtain ⟨a, b, p, r, c⟩ := t
  unfold tgV at HR ⊢
  dsimp only at HR ⊢
  have HB := Lib.hid ((Below.refl w.heap.size w).alloc (Nat.le_refl _) (.cells #[.int .i64 a, .int .i64 b, .int .i64 p, .int .i64 r, .int .i64 c] 23))
  go_enter Tryd.func43, Tryd.ntmps43
  go_wp2_with fail
  (with_reducible refine (HR.out _).mono ?_)
  rintro e w1 ⟨rfl, hb1⟩
  have HB1 := Lib.hid (HB.out.trans (hb1.mono (by simp)))
  clear hb1 HB
  go_wp2_with fail
  go_ret
  exact ⟨rfl, HB1.out⟩

theorem same_of {f : FuncId} {args : Array Value} {w : World} {v : Value} (h : Calls Tryd.prog f args w fun e w' => e = .returned v ∧ w = w') : Calls Tryd.prog f args w fun e w' => e = .returned v ∧ w' = w :=
  h.mono fun _ _ ⟨h1, h2⟩ => ⟨h1, h2.symm⟩

theorem text_bytes {a b r c : Nat} {p : Int} : (⟨#[115]⟩ : ByteArray) ++ ⟨(Lib.decDigits a).toArray⟩ ++ ⟨#[46, 98]⟩ ++ ⟨(Lib.decDigits b).toArray⟩ ++ ⟨#[46]⟩ ++ ⟨(phaseL p).toArray⟩ ++ ⟨(Lib.decDigits r).toArray⟩ ++ ⟨#[46, 99]⟩ ++ ⟨(Lib.decDigits c).toArray⟩ = ⟨(tagText ⟨a, b, p, r, c⟩).toArray⟩ := by
  rw [text_flat]
  dsimp only
  rw [itoa_pos (by omega), itoa_pos (by omega), itoa_pos (by omega), itoa_pos (by omega)]
  simp only [Int.toNat_natCast]
  rw [show (⟨#[115]⟩ : ByteArray) = ⟨([115] : List UInt8).toArray⟩ from rfl, show (⟨#[46, 98]⟩ : ByteArray) = ⟨([46, 98] : List UInt8).toArray⟩ from rfl, show (⟨#[46]⟩ : ByteArray) = ⟨([46] : List UInt8).toArray⟩ from rfl, show (⟨#[46, 99]⟩ : ByteArray) = ⟨([46, 99] : List UInt8).toArray⟩ from rfl]
  simp only [list_app]
  congr 2
  simp

set_option maxRecDepth 100000 in
set_option maxHeartbeats 4000000 in
theorem refTagText_yes (t : Tg) (h : tagOk t) (w : World) : Calls Tryd.prog 43 #[tgV t] w fun e w' => e = .returned (.string ⟨(tagText t).toArray⟩) ∧ Below w.heap.size w w' := by
  have HR := Lib.hid (fun W => refRight_any t W)
  rw [decide_eq_true h] at HR
  obtain ⟨a, b, p, r, c, rfl⟩ := tag_nat h
  have hT := text_bytes (a := a) (b := b) (r := r) (c := c) (p := (p : Int))
  have hb : a < 1048576 ∧ b < 1048576 ∧ r < 63 ∧ c < 1048576 := by unfold tagOk at h; dsimp only at h; omega
  have HNa := Lib.hid (fun W => number17_any a (by omega) W)
  have HNb := Lib.hid (fun W => number17_any b (by omega) W)
  have HNr := Lib.hid (fun W => number17_any r (by omega) W)
  have HNc := Lib.hid (fun W => number17_any c (by omega) W)
  have HPh := Lib.hid (fun W => refPhase_any (p : Int) W)
  have la := dec_len a (by omega)
  have lb := dec_len b (by omega)
  have lr := dec_len r (by omega)
  have lc := dec_len c (by omega)
  have lp := phase_len (p : Int)
  have sz : ∀ l : List UInt8, (⟨l.toArray⟩ : ByteArray).size = l.length := fun l => by simp [ByteArray.size]
  obtain ⟨A, hA⟩ : ∃ A : ByteArray, ⟨(Lib.decDigits a).toArray⟩ = A := ⟨_, rfl⟩
  obtain ⟨B, hB⟩ : ∃ A : ByteArray, ⟨(Lib.decDigits b).toArray⟩ = A := ⟨_, rfl⟩
  obtain ⟨R, hR⟩ : ∃ A : ByteArray, ⟨(Lib.decDigits r).toArray⟩ = A := ⟨_, rfl⟩
  obtain ⟨C, hC⟩ : ∃ A : ByteArray, ⟨(Lib.decDigits c).toArray⟩ = A := ⟨_, rfl⟩
  obtain ⟨F, hF⟩ : ∃ A : ByteArray, ⟨(phaseL p).toArray⟩ = A := ⟨_, rfl⟩
  have sA : A.size ≤ 20 := by rw [← hA, sz]; exact la
  have sB : B.size ≤ 20 := by rw [← hB, sz]; exact lb
  have sR : R.size ≤ 20 := by rw [← hR, sz]; exact lr
  have sC : C.size ≤ 20 := by rw [← hC, sz]; exact lc
  have sF : F.size ≤ 20 := by rw [← hF, sz]; omega
  rw [hA, hB, hR, hC, hF] at hT
  rw [hA] at HNa
  rw [hB] at HNb
  rw [hR] at HNr
  rw [hC] at HNc
  rw [hF] at HPh
  rw [← hT]
  clear hT hA hB hR hC hF la lb lr lc lp sz hb h
  unfold tgV at HR ⊢
  dsimp only at HR ⊢
  have HB := Lib.hid ((Below.refl w.heap.size w).alloc (Nat.le_refl _) (.cells #[.int .i64 a, .int .i64 b, .int .i64 p, .int .i64 r, .int .i64 c] 23))
  have HX := Lib.hid (heap_alloc_new w (.cells #[.int .i64 a, .int .i64 b, .int .i64 p, .int .i64 r, .int .i64 c] 23))
  go_enter Tryd.func43, Tryd.ntmps43
  go_wp2_with fail
  (with_reducible refine (HR.out _).mono ?_)
  rintro e w1 ⟨rfl, hb1⟩
  have HB1 := Lib.hid (HB.out.trans (hb1.mono (by simp)))
  have HX1 := Lib.hid (blk_below HX.out hb1 (by simp))
  clear hb1 HB HX HR
  have c0 := blk_cell HX1.out 0
  have c1 := blk_cell HX1.out 1
  have c2 := blk_cell HX1.out 2
  have c3 := blk_cell HX1.out 3
  have c4 := blk_cell HX1.out 4
  go_wp2_with fail
  go_quiet (first
    | (go_at_call 70; exact Calls.quiet_of_same (same_of (HNa.out _)))
    | (go_at_call 70; exact Calls.quiet_of_same (same_of (HNb.out _)))
    | (go_at_call 70; exact Calls.quiet_of_same (same_of (HNr.out _)))
    | (go_at_call 70; exact Calls.quiet_of_same (same_of (HNc.out _)))
    | (go_at_call 32; exact Calls.quiet_of_same (same_of (HPh.out _))))
  go_wp2_with fail
  go_ret
  exact ⟨rfl, below_drewN HB1.out _⟩

theorem dig_step {m c : Nat} (hm : m < 10000000) (h1 : 48 ≤ c) (h2 : c ≤ 57) : ∃ v u : Nat, IntKind.u8.wrap ((c : Int) - 48) = (v : Int) ∧ IntKind.i64.wrap (v : Int) = (v : Int) ∧ wrap64 (10 * (m : Int) + (v : Int)) = (u : Int) ∧ 10 * m + (c - 48) = u ∧ u ≤ 99999999 := by
  obtain ⟨v, rfl⟩ : ∃ v, c = 48 + v := ⟨c - 48, by omega⟩
  have hv : v ≤ 9 := by omega
  refine ⟨v, 10 * m + v, ?_, IntWalk.i64_in _ (by omega), ?_, by omega, by omega⟩
  · rw [IntKind.wrap_u8']; omega
  · rw [IntWalk.wrap64_in _ ⟨by omega, by omega⟩]; omega

def DigAt (p : Nat × List UInt8) (w : World) (e : Ending) (w' : World) : Prop := (∃ s : ByteArray, s.data.toList = p.2 ∧ e = .returned (.tuple #[.int .i64 p.1, .string s])) ∧ Below w.heap.size w w'

set_option maxHeartbeats 1000000 in
theorem refDigits_any (s : ByteArray) (w : World) (hs : s.size ≤ 1048576) : Calls Tryd.prog 71 #[.string s] w (DigAt (digF 0 s.data.toList) w) := by
  go_enter Tryd.func71, Tryd.ntmps71
  go_wp2_with fail
  go_loop [4, 5] (fun n i => ∃ k m : Nat, k ≤ s.size ∧ i = .int .i64 k ∧ n = .int .i64 m ∧ m ≤ 99999999 ∧ digF m (s.data.toList.drop k) = digF 0 s.data.toList) (fun _ i => s.size - (intOf i).toNat)
  case atStart => exact ⟨0, 0, Nat.zero_le _, rfl, rfl, by omega, rfl⟩
  case round =>
    obtain ⟨k, m, hk, rfl, rfl, hm, hv⟩ := hrel
    by_cases hlt : k < s.size
    · have hd := drop_at s k hlt
      have hc := s[k].toNat_lt
      rw [hd, digF] at hv
      by_cases h46 : s[k] = 46
      · rw [if_pos h46] at hv
        have hb : ((s[k].toNat : Int) == 46) = true := by rw [h46]; decide
        have hp1 : (k : Int) + 1 ≤ (s.size : Int) := by omega
        have HV := Lib.hid hv
        clear hv hd hc h46
        go_wp2_with fail
        go_quiet (fail)
        go_wp2_with fail
        go_ret2
        exact ⟨⟨s.extract (k + 1) s.size, by rw [← HV.out, Lib.extract_to_end], by rw [← HV.out]; rfl⟩, below_drewN (Below.refl _ _) _⟩
      · rw [if_neg h46] at hv
        have hn46 : s[k].toNat ≠ 46 := fun e => h46 (UInt8.toNat_inj.1 e)
        have hb : ((s[k].toNat : Int) == 46) = false := beq_eq_false_iff_ne.2 (by omega)
        by_cases h48 : 48 ≤ s[k].toNat
        · by_cases h57 : s[k].toNat ≤ 57
          · have k48 : (48 : Int) ≤ (s[k].toNat : Int) := by omega
            have k57 : (s[k].toNat : Int) ≤ 57 := by omega
            by_cases h10 : m < 10000000
            · rw [if_pos ⟨h48, h57, h10⟩] at hv
              have k10 : (m : Int) < 10000000 := by omega
              obtain ⟨v, u, hw1, hw2, hw5, hue, hub⟩ := dig_step h10 h48 h57
              rw [hue] at hv
              have HV := Lib.hid hv
              have HU := Lib.hid hub
              have HW5 := Lib.hid hw5
              clear hw5 hv hd hc hm hue hub h46 hn46 h48 h57 h10
              go_wp2_with fail
              go_round
              case rel => exact ⟨k + 1, u, by omega, by go_num, by rw [HW5.out], HU.out, HV.out⟩
              case measure => simp [intOf]; omega
            · rw [if_neg (fun h => h10 h.2.2)] at hv
              have k10 : ¬ (m : Int) < 10000000 := by omega
              have HV := Lib.hid hv
              have HM := Lib.hid hm
              clear hv hd hc hm h46 hn46 h48 h57 h10
              go_wp2_with fail
              go_round
              case rel => exact ⟨k + 1, m, by omega, by go_num, rfl, HM.out, HV.out⟩
              case measure => simp [intOf]; omega
          · rw [if_neg (fun h => h57 h.2.1)] at hv
            have k48 : (48 : Int) ≤ (s[k].toNat : Int) := by omega
            have k57 : ¬ (s[k].toNat : Int) ≤ 57 := by omega
            have HV := Lib.hid hv
            have HM := Lib.hid hm
            clear hv hd hc hm h46 hn46 h48 h57
            go_wp2_with fail
            go_round
            case rel => exact ⟨k + 1, m, by omega, by go_num, rfl, HM.out, HV.out⟩
            case measure => simp [intOf]; omega
        · rw [if_neg (fun h => h48 h.1)] at hv
          have k48 : ¬ (48 : Int) ≤ (s[k].toNat : Int) := by omega
          have HV := Lib.hid hv
          have HM := Lib.hid hm
          clear hv hd hc hm h46 hn46 h48
          go_wp2_with fail
          go_round
          case rel => exact ⟨k + 1, m, by omega, by go_num, rfl, HM.out, HV.out⟩
          case measure => simp [intOf]; omega
    · rw [drop_end s k hlt, digF] at hv
      have HV := Lib.hid hv
      have hm2 : (0 : Int) ≤ m := by omega
      clear hv
      go_wp2_with fail
      go_ret2
      exact ⟨⟨⟨#[]⟩, by rw [← HV.out], by rw [← HV.out]; rfl⟩, Below.refl _ _⟩

end Go.Proofs.YtajilipbnfpemaaDoor
