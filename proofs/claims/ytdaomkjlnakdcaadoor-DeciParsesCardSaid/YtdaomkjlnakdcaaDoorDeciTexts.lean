/- Walks: DeciTexts. Conditions: the table of powers of ten, the two sentinels and the library's greatest length read as listed. -/
import Derived.Test.YtdaomkjlnakdcaaDoorDeciParse
import Derived.Test.YtdaomkjlnakdcaaDoorDeciApart
import Derived.Test.YtdaomkjlnakdcaaDoorRefText
namespace Go.Proofs.YtdaomkjlnakdcaaDoor
open Go.RowKit

theorem decText_len (x : Int) (q : Nat) (hq : q ≤ 62) (hx : In64 x) : (decText x q).length ≤ 100 := by
  unfold In64 at hx
  have h1 : (Lib.decDigits (x.natAbs / p2 q)).length ≤ 20 := dec_len _ (Nat.lt_of_le_of_lt (Nat.div_le_self _ _) (by omega))
  have h2 := cd_length q (x.natAbs % p2 q)
  unfold decText fracText
  split <;> split <;> simp <;> omega

set_option maxRecDepth 100000 in
set_option maxHeartbeats 1000000 in
theorem deciTexts_any (x q : Int) (w : World) (hx : In64 x) (hp : Pow w.heap.size w) (he : Errs w.heap.size w) (hm : MaxL w.heap.size w) :
    Calls Tryd.prog 10 #[.int .i64 x, .int .i64 q] w fun e w' => e = .returned (.bool true) ∧ Below w.heap.size w w' := by
  have HA := Lib.hid (fun W (hb : Below w.heap.size w W) => alive02_any w.heap.size W (hp.on hb) hb.size)
  by_cases hq : 0 ≤ q ∧ q ≤ 62
  · obtain ⟨n, rfl⟩ : ∃ n : Nat, q = (n : Int) := ⟨q.toNat, by omega⟩
    have hn : n ≤ 62 := by omega
    have HT := Lib.hid (decText_any x n hn hx w.heap.size w hp (Nat.le_refl _))
    have HR := Lib.hid (fun W => refText_any x n hn hx W)
    have hl := decText_len x n hn hx
    obtain ⟨t, ht⟩ : ∃ t : ByteArray, (⟨(decText x n).toArray⟩ : ByteArray) = t := ⟨_, rfl⟩
    have htd : t.data.toList = decText x n := by rw [← ht]
    have hts : t.size ≤ 1000 := by
      have : t.data.toList.length = t.size := Array.length_toList
      rw [htd] at this
      omega
    have HP := Lib.hid (fun W (hb : Below w.heap.size w W) => parse_any t n w.heap.size W hts hb.size (hp.on hb) (he.on hb) (hm.on hb))
    have HV := Lib.hid (parseS_yes hn hx htd)
    unfold GivesParse at HP
    rw [HV.out] at HP
    rw [ht] at HT HR
    obtain ⟨h1, h2⟩ : 0 ≤ (n : Int) ∧ (n : Int) ≤ 62 := by omega
    clear hq hx hp he hm hn hl ht htd hts HV
    as_aux_lemma =>
      go_enter Tryd.func10, Tryd.ntmps10
      go_wp2_with fail
      (with_reducible refine HT.out.mono ?_)
      rintro e w1 ⟨rfl, hb1⟩
      have HB1 := Lib.hid hb1
      clear hb1
      go_wp2_with fail
      (with_reducible refine (HR.out _).mono ?_)
      rintro e w2 ⟨rfl, hb2⟩
      have HB2 := Lib.hid (HB1.out.trans (hb2.mono HB1.out.size))
      clear hb2
      go_wp2_with fail
      (with_reducible refine (HP.out _ HB2.out).mono ?_)
      rintro e w3 ⟨rfl, hb3⟩
      have HB3 := Lib.hid (HB2.out.trans (hb3.mono HB2.out.size))
      clear hb3
      go_wp2_with fail
      (with_reducible refine (HA.out _ HB3.out).mono ?_)
      rintro e w4 ⟨rfl, hb4⟩
      have HB4 := Lib.hid (HB3.out.trans (hb4.mono HB3.out.size))
      clear hb4
      go_wp2_with fail
      go_ret
      exact ⟨rfl, HB4.out⟩
  · have HT := Lib.hid (decText_no x q hq w)
    have HR := Lib.hid (fun W => refText_no x q hq W)
    have HP := Lib.hid (fun W (hb : Below w.heap.size w W) => parse_any ⟨#[]⟩ q w.heap.size W (by decide) hb.size (hp.on hb) (he.on hb) (hm.on hb))
    unfold GivesParse at HP
    rw [parseS_out hq] at HP
    have h : q < 0 ∨ (0 ≤ q ∧ 62 < q) := by omega
    clear hq hx hp he hm
    rcases h with h | ⟨h1, h2⟩
    all_goals
      as_aux_lemma =>
        go_enter Tryd.func10, Tryd.ntmps10
        go_wp2_with fail
        (with_reducible refine HT.out.mono ?_)
        rintro e w1 ⟨rfl, rfl⟩
        go_wp2_with fail
        (with_reducible refine (HR.out _).mono ?_)
        rintro e w2 ⟨rfl, rfl⟩
        go_wp2_with fail
        (with_reducible refine (HP.out _ (Below.refl _ _)).mono ?_)
        rintro e w3 ⟨rfl, hb3⟩
        have HB3 := Lib.hid hb3
        clear hb3
        go_wp2_with fail
        (with_reducible refine (HA.out _ HB3.out).mono ?_)
        rintro e w4 ⟨rfl, hb4⟩
        have HB4 := Lib.hid (HB3.out.trans (hb4.mono HB3.out.size))
        clear hb4
        go_wp2_with fail
        go_ret
        first
          | exact ⟨rfl, HB4.out⟩
          | exact ⟨ret_bool (by simp; omega), HB4.out⟩

end Go.Proofs.YtdaomkjlnakdcaaDoor
