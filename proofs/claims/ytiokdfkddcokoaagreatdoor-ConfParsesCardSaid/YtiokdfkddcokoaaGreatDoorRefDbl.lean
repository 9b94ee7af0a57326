/- Walks: the reference's doubling of digits. Conditions: none. -/
import Derived.Test.YtiokdfkddcokoaaGreatDoorRefText
import Derived.Test.YtiokdfkddcokoaaGreatDoorDeciFrac
namespace Go.Proofs.YtiokdfkddcokoaaGreatDoor
open Go.RowKit

set_option maxRecDepth 100000 in
set_option maxHeartbeats 1000000 in
theorem doubled_any (s : ByteArray) (L : List Nat) (w : World) (hs : s.data.toList = digs L) (h9 : ∀ d ∈ L, d ≤ 9) (hl : s.size ≤ 1000) : Calls Tryz.prog 41 #[.string s] w fun e w' => e = .returned (.tuple #[.int .u64 ((dblL L).1 : Int), strD (dblL L).2]) ∧ w = w' := by
  have hlen : L.length = s.size := by rw [← digs_len L, ← hs]; exact Array.length_toList
  have HS := Lib.hid (And.intro hs (And.intro h9 hlen))
  have hs0 : (s.size : Int) ≤ 1000 := by omega
  clear hs h9 hlen
  go_enter Tryz.func41, Tryz.ntmps41
  go_wp2_with fail
  go_loop [4, 5, 6] (fun o c i => ∃ (m cc : Nat), m ≤ s.size ∧ i = .int .i64 ((m : Int) - 1) ∧ c = .int .i64 (cc : Int) ∧ cc = (dblL (L.drop m)).1 ∧ o = strD (dblL (L.drop m)).2) (fun _ _ i => (intOf i + 1).toNat)
  case atStart =>
    refine ⟨s.size, 0, Nat.le_refl _, rfl, rfl, ?_, ?_⟩
    · rw [List.drop_of_length_le (by rw [HS.out.2.2]; exact Nat.le_refl _)]; rfl
    · rw [List.drop_of_length_le (by rw [HS.out.2.2]; exact Nat.le_refl _)]; rfl
  case round =>
    obtain ⟨m, cc, hm, rfl, rfl, hcc, rfl⟩ := hrel
    cases m with
    | zero =>
      rw [List.drop_zero] at hcc ⊢
      have e0 : (((0 : Nat) : Int) - 1) = -1 := rfl
      rw [e0]
      have hbd := (dbl_bd L HS.out.2.1).1
      have hw : IntKind.u64.wrap (cc : Int) = cc := by rw [IntKind.wrap_u64]; omega
      have HCC := Lib.hid hcc
      clear hcc hbd e0
      go_wp2_with fail
      go_ret2
      exact ⟨by rw [← HCC.out]; rfl, rfl⟩
    | succ m =>
      obtain ⟨d, hd, hd9, hb⟩ := digs_at HS.out.1 HS.out.2.1 m (by omega)
      have hdb := dbl_bd (L.drop (m + 1)) (fun x hx => HS.out.2.1 x (List.mem_of_mem_drop hx))
      have hstep : dblL (L.drop m) = ((2 * d + cc) / 10, (2 * d + cc) % 10 :: (dblL (L.drop (m + 1))).2) := by
        rw [drop_frac hd, dblL, ← hcc]
      rw [← hcc] at hdb
      obtain ⟨v, hv⟩ : ∃ v, 2 * d + cc = v := ⟨_, rfl⟩
      rw [hv] at hstep
      obtain ⟨r, hr⟩ : ∃ r, v % 10 = r := ⟨_, rfl⟩
      obtain ⟨c1, hc1⟩ : ∃ c1, v / 10 = c1 := ⟨_, rfl⟩
      rw [hr, hc1] at hstep
      have k1 : IntKind.u8.wrap ((s[m].toNat : Int) - 48) = (d : Int) := by rw [IntKind.wrap_u8']; omega
      have k2 : (2 : Int) * (d : Int) + (cc : Int) = (v : Int) := by omega
      have k3 : (v : Int) % 10 = (r : Int) := by omega
      have k4 : (v : Int) / 10 = (c1 : Int) := by omega
      have k5 : 0 ≤ (v : Int) := by omega
      have k6 : IntKind.u64.wrap (r : Int) = r := by rw [IntKind.wrap_u64]; omega
      have k7 : (v : Int) ≤ 19 := by omega
      have e1 : (((m + 1 : Nat) : Int) - 1) = (m : Int) := by omega
      rw [e1]
      have HU := Lib.hid (unsigned_any r w (by omega))
      have HD := Lib.hid (show Lib.decDigits r = digs [r] from digs_one (by omega))
      have hl1 : (digs (dblL (L.drop (m + 1))).2).length ≤ 1000 := by
        rw [digs_len, hdb.2.1, List.length_drop, HS.out.2.2]; omega
      have hl2 : (digs [r]).length = 1 := rfl
      have HX := Lib.hid hstep
      generalize (dblL (L.drop (m + 1))).2 = M at hl1 HX ⊢
      have hm1 : (m : Int) < (s.size : Int) := by omega
      clear hd hd9 hb hdb hstep hv hr hc1 hcc e1
      go_wp2_with fail
      (with_reducible refine HU.out.mono ?_)
      rintro e w1 ⟨rfl, rfl⟩
      rw [HD.out]
      go_wp2_with fail
      go_round
      case rel => exact ⟨m, c1, by omega, rfl, rfl, by rw [HX.out], by rw [HX.out]; exact str_app [r] M⟩
      case measure => simp [intOf]

end Go.Proofs.YtiokdfkddcokoaaGreatDoor
