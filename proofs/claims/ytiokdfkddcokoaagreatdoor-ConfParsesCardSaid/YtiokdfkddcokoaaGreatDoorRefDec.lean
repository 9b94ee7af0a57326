/- Walks: the reference's decimal forms. Conditions: none. -/
import Derived.Test.YtiokdfkddcokoaaGreatDoorDeciPlain
import Derived.Lib.ItoaMem
import Derived.Lib.ItoaLen
namespace Go.Proofs.YtiokdfkddcokoaaGreatDoor
open Go.RowKit

theorem one_digit : ∀ d : Fin 10, (⟨#[48, 49, 50, 51, 52, 53, 54, 55, 56, 57]⟩ : ByteArray).extract d.val (d.val + 1) = ⟨#[UInt8.ofNat (48 + d.val)]⟩ := by decide +kernel

theorem list_app (a b : List UInt8) : (⟨a.toArray⟩ : ByteArray) ++ ⟨b.toArray⟩ = ⟨(a ++ b).toArray⟩ := by
  apply ByteArray.ext
  simp

theorem dec_len (n : Nat) (h : n < 18446744073709551616) : (Lib.decDigits n).length ≤ 20 := by
  rw [Lib.decDigits_length]; exact Lib.nDigits_le20 n h

set_option maxHeartbeats 400000 in
theorem unsigned_any (n : Nat) : ∀ (w : World), n < 18446744073709551616 → Calls Tryz.prog 18 #[.int .u64 n] w fun e w' => e = .returned (.string ⟨(Lib.decDigits n).toArray⟩) ∧ w = w' := by
  induction n using Nat.strongRecOn with
  | ind n ih =>
    intro w hn
    obtain ⟨d, hd⟩ : ∃ d : Nat, (n : Int) % 10 = d := ⟨n % 10, by omega⟩
    have hd10 : d < 10 := by omega
    have hdn : n % 10 = d := by omega
    have hx := one_digit ⟨d, hd10⟩
    dsimp only at hx
    obtain ⟨s, hs⟩ : ∃ s, (⟨#[UInt8.ofNat (48 + d)]⟩ : ByteArray) = s := ⟨_, rfl⟩
    rw [hs] at hx
    have hw : IntKind.u64.wrap ((d : Int) + 1) = ((d + 1 : Nat) : Int) := by rw [IntKind.wrap_u64]; omega
    have h1 : (d : Int) + 1 ≤ 10 := by omega
    have HS := Lib.hid hs
    have HD := Lib.hid (And.intro hd10 hdn)
    have HN := Lib.hid hn
    clear hs hd10 hdn hn
    by_cases h : n < 10
    · have h' : (n : Int) < 10 := by omega
      have HL := Lib.hid h
      clear h ih
      go_enter Tryz.func18, Tryz.ntmps18
      go_wp2_with fail
      go_ret
      refine ⟨?_, rfl⟩
      have h := HD.out.2
      rw [Nat.mod_eq_of_lt HL.out] at h
      rw [Lib.decDigits_one HL.out, h]
      show Ending.returned (.string s) = _
      rw [← HS.out]
    · have h' : ¬ (n : Int) < 10 := by omega
      have HL := Lib.hid h
      obtain ⟨m, hm⟩ : ∃ m : Nat, (n : Int) / 10 = m := ⟨n / 10, by omega⟩
      have hmn : n / 10 = m := by omega
      have hw2 : IntKind.u64.wrap (m : Int) = m := by rw [IntKind.wrap_u64]; have := HN.out; omega
      have HI := Lib.hid (ih m (by omega) w (by have := HN.out; omega))
      have HM := Lib.hid hmn
      have hl := dec_len m (by have := HN.out; omega)
      have hsz : s.size = 1 := by rw [← HS.out]; rfl
      clear hmn h ih
      go_enter Tryz.func18, Tryz.ntmps18
      go_wp2_with fail
      (with_reducible refine HI.out.mono ?_)
      rintro e w1 ⟨rfl, rfl⟩
      go_wp2_with fail
      go_ret
      refine ⟨?_, rfl⟩
      have he : Lib.decDigits n = Lib.decDigits m ++ [UInt8.ofNat (48 + d)] := by rw [Lib.decDigits, dif_neg HL.out, HM.out, HD.out.2]
      rw [he, ← list_app, HS.out]
      rfl

end Go.Proofs.YtiokdfkddcokoaaGreatDoor
