/- Walks: the reference's Text. Conditions: none. -/
import Derived.Test.YtiokdfkddcokoaaGreatDoorRefNum
import Derived.Test.YtiokdfkddcokoaaGreatDoorDeciText
import Derived.Lib.IndexBytes
namespace Go.Proofs.YtiokdfkddcokoaaGreatDoor
open Go.RowKit

theorem digs_one {d : Nat} (h : d < 10) : Lib.decDigits d = digs [d] := by rw [Lib.decDigits_one h]; rfl
theorem digs_app (L M : List Nat) : digs L ++ digs M = digs (L ++ M) := by simp [digs]
theorem digs_len (L : List Nat) : (digs L).length = L.length := by simp [digs]
theorem digs_at {L : List Nat} {s : ByteArray} (hs : s.data.toList = digs L) (h9 : ∀ d ∈ L, d ≤ 9) (k : Nat) (h : k < s.size) : ∃ d, L[k]? = some d ∧ d ≤ 9 ∧ s[k].toNat = 48 + d := by
  have hl : s.data.toList.length = s.size := Array.length_toList
  have hk : k < L.length := by rw [← digs_len L, ← hs, hl]; exact h
  refine ⟨L[k], List.getElem?_eq_getElem hk, h9 _ (List.getElem_mem hk), ?_⟩
  have h1 : s.data.toList[k]'(by rw [hl]; exact h) = UInt8.ofNat (48 + L[k]) := by
    simp only [hs, digs, List.getElem_map]
  have h2 : s[k] = UInt8.ofNat (48 + L[k]) := h1
  rw [h2]
  have := h9 _ (List.getElem_mem hk)
  exact digit_byte (by omega)
theorem drop_nat {L : List Nat} {k d : Nat} (h : L[k]? = some d) : L.drop k = d :: L.drop (k + 1) := by
  obtain ⟨hk, rfl⟩ := List.getElem?_eq_some_iff.1 h
  exact List.drop_eq_getElem_cons hk

/-- A string of digits. -/
abbrev strD (L : List Nat) : Value := .string ⟨(digs L).toArray⟩
theorem str_app (L M : List Nat) : Value.string ((⟨(digs L).toArray⟩ : ByteArray) ++ ⟨(digs M).toArray⟩) = strD (L ++ M) := by rw [list_app, digs_app]

set_option maxRecDepth 100000 in
set_option maxHeartbeats 1000000 in
theorem halved_any (s : ByteArray) (L : List Nat) (w : World) (hs : s.data.toList = digs L) (h9 : ∀ d ∈ L, d ≤ 9) (hl : s.size ≤ 1000) : Calls Tryz.prog 58 #[.string s] w fun e w' => e = .returned (strD (halfL 0 L)) ∧ w = w' := by
  have hlen : L.length = s.size := by rw [← digs_len L, ← hs]; exact Array.length_toList
  have HS := Lib.hid (And.intro hs (And.intro h9 hlen))
  clear hs h9 hlen
  go_enter Tryz.func58, Tryz.ntmps58
  go_wp2_with fail
  go_loop [3, 4, 5] (fun o c i => ∃ (k cc : Nat) (M : List Nat), k ≤ s.size ∧ i = .int .i64 k ∧ c = .int .i64 cc ∧ o = strD M ∧ cc ≤ 1 ∧ M.length = k ∧ M ++ halfL cc (L.drop k) = halfL 0 L) (fun _ _ i => s.size - (intOf i).toNat)
  case atStart => exact ⟨0, 0, [], Nat.zero_le _, rfl, rfl, rfl, by omega, rfl, rfl⟩
  case round =>
    obtain ⟨k, cc, M, hk, rfl, rfl, rfl, hcc, hM, hv⟩ := hrel
    by_cases hlt : k < s.size
    · obtain ⟨d, hd, hd9, hb⟩ := digs_at HS.out.1 HS.out.2.1 k hlt
      rw [drop_nat hd, halfL] at hv
      obtain ⟨n, hn⟩ : ∃ n, 10 * cc + d = n := ⟨_, rfl⟩
      rw [hn] at hv
      have hw1 : IntKind.u8.wrap ((s[k].toNat : Int) - 48) = (d : Int) := by rw [IntKind.wrap_u8']; omega
      have hw2 : (10 : Int) * (cc : Int) + (d : Int) = (n : Int) := by omega
      have hn2 : (n : Int) / 2 = ((n / 2 : Nat) : Int) := rfl
      have hn3 : (n : Int) % 2 = ((n % 2 : Nat) : Int) := rfl
      obtain ⟨v, hv2⟩ : ∃ v, n / 2 = v := ⟨_, rfl⟩
      obtain ⟨c2, hc2⟩ : ∃ c2, n % 2 = c2 := ⟨_, rfl⟩
      rw [hv2] at hn2 hv
      rw [hc2] at hn3 hv
      have hw3 : IntKind.u64.wrap (v : Int) = v := by rw [IntKind.wrap_u64]; omega
      have HU := Lib.hid (unsigned_any v w (by omega))
      have HD := Lib.hid (show Lib.decDigits v = digs [v] from digs_one (by omega))
      have HV := Lib.hid hv
      have HM := Lib.hid (And.intro hM (show c2 ≤ 1 by omega))
      have hml : (digs M).length ≤ 1000 := by rw [digs_len, hM]; omega
      have hvl : (Lib.decDigits v).length ≤ 20 := dec_len v (by omega)
      have hnb : 0 ≤ (n : Int) ∧ (n : Int) ≤ 19 := by omega
      obtain ⟨hnb1, hnb2⟩ := hnb
      clear hd hd9 hb hv hn hv2 hc2 hM
      go_wp2_with fail
      (with_reducible refine HU.out.mono ?_)
      rintro e w1 ⟨rfl, rfl⟩
      rw [HD.out] at hvl ⊢
      go_wp2_with fail
      go_round
      case rel =>
        refine ⟨k + 1, c2, M ++ [v], by omega, by go_num, by rw [hn3], ?_, HM.out.2, by simp [HM.out.1], ?_⟩
        · exact str_app M [v]
        · rw [List.append_assoc]; exact HV.out
      case measure => simp [intOf]; omega
    · have hd : L.drop k = [] := List.drop_of_length_le (by have := HS.out.2.2; omega)
      rw [hd, halfL] at hv
      have hml : (digs M).length ≤ 1000 := by rw [digs_len, hM]; omega
      by_cases h0 : cc = 0
      · subst h0
        rw [if_pos rfl, List.append_nil] at hv
        have HV := Lib.hid hv
        clear hv hd hM
        go_wp2_with fail
        go_ret
        exact ⟨by rw [← HV.out]; rfl, rfl⟩
      · have h1 : cc = 1 := by omega
        subst h1
        rw [if_neg h0] at hv
        have HV := Lib.hid hv
        clear hv hd hM h0
        go_wp2_with fail
        go_ret
        exact ⟨by rw [← HV.out, ← str_app]; rfl, rfl⟩

theorem half_cons (b : Nat) (L : List Nat) (hb : b ≤ 1) : halfL 0 (b :: L) = 0 :: halfL b L := by
  simp only [halfL]
  rw [show (10 * 0 + b) / 2 = 0 by omega, show (10 * 0 + b) % 2 = b by omega]

set_option maxRecDepth 100000 in
set_option maxHeartbeats 1000000 in
theorem half_any (L : List Nat) (b : Nat) (w : World) (hb : b ≤ 1) (h9 : ∀ d ∈ L, d ≤ 9) (hl : L.length ≤ 900) : Calls Tryz.prog 36 #[.int .i64 b, strD L] w fun e w' => e = .returned (strD (halfL b L)) ∧ Below w.heap.size w w' := by
  obtain ⟨c, hc⟩ : ∃ c, 48 + b = c := ⟨_, rfl⟩
  have hw1 : IntKind.u8.wrap (48 + (b : Int)) = (c : Int) := by rw [IntKind.wrap_u8']; omega
  have hcv : (convert 69 9 (.slice (some ⟨w.heap.size, 0, none⟩) 1 1)).run Tryz.prog (w.alloc (.cells #[.int .u8 c] 5)) = .ok (strD [b]) (w.alloc (.cells #[.int .u8 c] 5)) := by
    have h := run_convert_bytes_back (P := Tryz.prog) (w.alloc (.cells #[.int .u8 c] 5)) 69 9 5 ⟨w.heap.size, 0, none⟩ 1 (digs [b]) Tryz.underlying69 Tryz.underlying5 Tryz.underlying9 (fun j hj => by
      have hj0 : j = 0 := by simpa [digs] using hj
      subst hj0
      rw [show (⟨w.heap.size, 0, none⟩ : Addr).add 0 = ⟨w.heap.size, 0, none⟩ from rfl, World.cell?_alloc_new]
      have := digit_byte (d := b) (by omega)
      show some (Value.int .u8 (c : Int)) = some (Value.int .u8 ((UInt8.ofNat (48 + b)).toNat : Int))
      rw [this, hc])
    exact h
  have hb0 : 0 ≤ (b : Int) ∧ (b : Int) ≤ 1 := by omega
  obtain ⟨hb1, hb2⟩ := hb0
  have hsz : (⟨(digs [b]).toArray⟩ : ByteArray).size = 1 := rfl
  have hln : (digs L).length ≤ 900 := by rw [digs_len]; exact hl
  have HH := Lib.hid (halved_any ⟨(digs (b :: L)).toArray⟩ (b :: L) (w.alloc (.cells #[.int .u8 c] 5)) rfl (fun d hd => by
    rcases List.mem_cons.1 hd with rfl | hd
    · omega
    · exact h9 d hd) (by show (digs (b :: L)).toArray.size ≤ 1000; simp [digs]; omega))
  have HHC := Lib.hid (half_cons b L hb)
  clear hc h9 hb
  go_enter Tryz.func36, Tryz.ntmps36
  go_wp2_with fail
  rw [list_app, digs_app, List.cons_append, List.nil_append]
  (with_reducible refine HH.out.mono ?_)
  rintro e w1 ⟨rfl, rfl⟩
  rw [HHC.out]
  obtain ⟨t, ht⟩ : ∃ t, (⟨(digs (0 :: halfL b L)).toArray⟩ : ByteArray) = t := ⟨_, rfl⟩
  have ht' : strD (0 :: halfL b L) = .string t := by rw [← ht]
  rw [ht']
  have ht1 : (1 : Int) ≤ (t.size : Int) := by
    rw [← ht]
    show (1 : Int) ≤ ((digs (0 :: halfL b L)).toArray.size : Int)
    simp [digs]
    omega
  have HT := Lib.hid (show t.extract 1 t.size = ⟨(digs (halfL b L)).toArray⟩ by
    apply ByteArray.ext
    have := Lib.extract_to_end t 1
    rw [← ht] at this ⊢
    exact Array.toList_inj.1 (by rw [this]; simp [digs]))
  clear ht ht'
  go_wp2_with fail
  go_ret
  exact ⟨by show Ending.returned (.string (t.extract 1 t.size)) = .returned (.string ⟨(digs (halfL b L)).toArray⟩); rw [HT.out], (Below.refl _ _).alloc (Nat.le_refl _) _⟩

theorem last_half : ∀ (L : List Nat) (b : Nat), b ≤ 1 → (∀ d ∈ L, d ≤ 9) → L.getLast? ≠ some 0 → (halfL b L).getLast? ≠ some 0
  | [], b, _, _, _ => by
    unfold halfL
    split <;> simp
  | [d], b, hb, h9, h0 => by
    have hd : d ≠ 0 := fun e => h0 (by rw [e]; rfl)
    simp only [halfL]
    by_cases hc : (10 * b + d) % 2 = 0
    · rw [if_pos hc]
      simp
      omega
    · rw [if_neg hc]
      simp
  | d :: e :: L, b, hb, h9, h0 => by
    have ih := last_half (e :: L) ((10 * b + d) % 2) (by omega) (fun x hx => h9 x (by simp [hx])) (by simpa using h0)
    have hne : halfL ((10 * b + d) % 2) (e :: L) ≠ [] := by simp [halfL]
    rw [halfL, List.getLast?_cons_of_ne_nil hne]
    exact ih
theorem last_cd : ∀ (q r : Nat), r < p2 q → (cd q r).getLast? ≠ some 0
  | 0, _, _ => by simp [cd]
  | q + 1, r, h => by
    have hp := p2_pos q
    rw [p2_succ] at h
    have hm := Nat.mod_lt r hp
    exact last_half _ _ (Nat.lt_succ_iff.1 ((Nat.div_lt_iff_lt_mul hp).2 (by omega))) (cd_digits q _ hm) (last_cd q _ hm)

theorem cd_next (n i : Nat) : cd (i + 1) (n % p2 (i + 1)) = halfL (n / p2 i % 2) (cd i (n % p2 i)) := by
  have hp := p2_pos i
  have e1 : n % p2 (i + 1) / p2 i = n / p2 i % 2 := by
    rw [p2_succ, Nat.mul_comm 2, Nat.mod_mul_right_div_self]
  have e2 : n % p2 (i + 1) % p2 i = n % p2 i := by
    rw [p2_succ, Nat.mod_mod_of_dvd _ (Nat.dvd_mul_left _ _)]
  rw [cd, e1, e2]

theorem refText_no (x q : Int) (hq : ¬ (0 ≤ q ∧ q ≤ 62)) (w : World) : Calls Tryz.prog 19 #[.int .i64 x, .int .i64 q] w fun e w' => e = .returned (.string ⟨#[]⟩) ∧ w = w' := by
  have h : q < 0 ∨ (0 ≤ q ∧ 62 < q) := by omega
  clear hq
  rcases h with h | ⟨h1, h2⟩
  all_goals
    go_enter Tryz.func19, Tryz.ntmps19
    go_wp2_with fail
    go_ret
    exact ⟨rfl, rfl⟩

def SignAt (w : World) (x : Int) (s5 s6 : Value) (wx : World) : Prop := s5 = .string ⟨(signL x).toArray⟩ ∧ s6 = .int .u64 (x.natAbs : Int) ∧ wx = w

set_option maxRecDepth 100000 in
set_option maxHeartbeats 2000000 in
theorem refText_any (x : Int) (q : Nat) (hq : q ≤ 62) (hx : -9223372036854775808 ≤ x ∧ x ≤ 9223372036854775807) (w : World) :
    Calls Tryz.prog 19 #[.int .i64 x, .int .i64 q] w fun e w' => e = .returned (.string ⟨(decText x q).toArray⟩) ∧ Below w.heap.size w w' := by
  have HX := Lib.hid hx
  have HQ := Lib.hid hq
  obtain ⟨h1, h2⟩ : 0 ≤ (q : Int) ∧ (q : Int) ≤ 62 := by omega
  clear hx hq
  go_enter Tryz.func19, Tryz.ntmps19
  go_upto_if 19 with fail
  go_cut [5, 6] (fun s5 s6 wx => SignAt w x s5 s6 wx)
  case first =>
    by_cases hneg : x < 0
    · have hw := wrap_abs x HX.out hneg
      go_wp2_with fail
      go_meet
      exact ⟨by rw [signL, if_pos hneg], rfl, rfl⟩
    · have hw := wrap_pos x HX.out hneg
      go_wp2_with fail
      go_meet
      exact ⟨by rw [signL, if_neg (by omega)], rfl, rfl⟩
  case rest =>
    obtain ⟨rfl, rfl, rfl⟩ := hcut
    go_wp2_with fail
    have hn64 : x.natAbs < 18446744073709551616 := by have := HX.out; omega
    obtain ⟨n, hn⟩ : ∃ n, x.natAbs = n := ⟨_, rfl⟩
    rw [hn]
    rw [hn] at hn64
    have HN := Lib.hid (And.intro hn hn64)
    clear hn hn64
    go_loopw [7, 8] (fun s7 i wr => ∃ k : Nat, k ≤ q ∧ i = .int .i64 k ∧ s7 = strD (cd k (n % p2 k)) ∧ Below wc.heap.size wc wr) (fun _ i _ => q - (intOf i).toNat)
    case atStart => exact ⟨0, Nat.zero_le _, rfl, rfl, Below.refl _ _⟩
    case round =>
      obtain ⟨k, hk, rfl, rfl, hb⟩ := hrel
      have HB := Lib.hid hb
      clear hb
      by_cases hlt : k < q
      · have hk62 : k ≤ 62 := by have := HQ.out; omega
        have hkk : 0 ≤ (k : Int) ∧ (k : Int) ≤ 62 := by omega
        obtain ⟨hk1, hk2⟩ := hkk
        have hw1 : IntKind.u64.wrap (k : Int) = k := by rw [IntKind.wrap_u64]; omega
        have e1 := shr_nat k n
        have hnext := cd_next n k
        have hdig : ∀ d ∈ cd k (n % p2 k), d ≤ 9 := cd_digits k _ (Nat.mod_lt _ (p2_pos k))
        have hcl := cd_length k (n % p2 k)
        have hna : n / p2 k < 18446744073709551616 := Nat.lt_of_le_of_lt (Nat.div_le_self _ _) HN.out.2
        generalize n / p2 k = a at e1 hnext hna
        have e2 : bits .and .u64 (a : Int) 1 = ((a % 2 : Nat) : Int) := by
          have := u64_and_nat a 1 hna (by omega)
          rw [nat_mask1] at this
          exact this
        have hb1 : a % 2 ≤ 1 := by omega
        generalize a % 2 = b at e2 hnext hb1
        have e3 : IntKind.i64.wrap (b : Int) = b := IntWalk.i64_in _ (by omega)
        have HH := Lib.hid (fun W => half_any (cd k (n % p2 k)) b W hb1 hdig (by omega))
        have HNX := Lib.hid hnext
        clear hdig hcl hna hb1 hnext hk62
        go_wp2_with fail
        (with_reducible refine (HH.out _).mono ?_)
        rintro e w2 ⟨rfl, hb2⟩
        have HB2 := Lib.hid (HB.out.trans (hb2.mono HB.out.size))
        clear hb2
        go_wp2_with fail
        go_roundw
        case rel => exact ⟨k + 1, by omega, by go_num, by rw [HNX.out], HB2.out⟩
        case measure => simp [intOf]; omega
      · obtain rfl : k = q := by omega
        have hL9 := cd_digits k _ (Nat.mod_lt n (p2_pos k))
        have hlast := last_cd k _ (Nat.mod_lt n (p2_pos k))
        have hlen := cd_length k (n % p2 k)
        have hT := decText_eq x k
        rw [HN.out.1] at hT
        have hrl := Nat.mod_lt n (p2_pos k)
        generalize n % p2 k = r at hL9 hlast hlen hT hrl ⊢
        have e1 := shr_nat k n
        have hnq : n / p2 k < 18446744073709551616 := Nat.lt_of_le_of_lt (Nat.div_le_self _ _) HN.out.2
        generalize n / p2 k = u0 at e1 hnq hT
        have hwk : IntKind.u64.wrap (k : Int) = k := by rw [IntKind.wrap_u64]; have := HQ.out; omega
        have HU := Lib.hid (unsigned_any u0 wr hnq)
        have hul : (Lib.decDigits u0).length ≤ 20 := dec_len u0 hnq
        have hsl : (signL x).length ≤ 1 := by unfold signL; split <;> simp
        by_cases hr0 : r = 0
        · subst hr0
          rw [cd_nil] at hT ⊢
          have HT := Lib.hid (show decText x k = signL x ++ Lib.decDigits u0 by rw [hT]; simp [dotL, digs])
          clear hT hL9 hlast hlen hrl hnq
          have he : strD [] = .string ⟨#[]⟩ := rfl
          rw [he]
          clear he
          go_wp2_with fail
          go_loop [7] (fun s7 => s7 = .string ⟨#[]⟩) (fun _ => 0)
          case atStart => rfl
          case round =>
            subst hrel
            go_wp2_with fail
            (with_reducible refine HU.out.mono ?_)
            rintro e w3 ⟨rfl, rfl⟩
            go_wp2_with fail
            go_ret
            exact ⟨by rw [HT.out, ← list_app]; rfl, HB.out⟩
        · obtain ⟨M, d, hMd⟩ : ∃ M d, cd k r = M ++ [d] := by
            have hne : cd k r ≠ [] := by rw [cd_step k r hrl hr0]; simp
            exact ⟨_, _, (List.dropLast_concat_getLast hne).symm⟩
          have hd0 : d ≠ 0 := fun e => hlast (by rw [hMd, e]; simp)
          have hd9 : d ≤ 9 := hL9 d (by rw [hMd]; simp)
          have HT := Lib.hid (show decText x k = (signL x ++ Lib.decDigits u0) ++ [46] ++ digs (cd k r) by rw [hT]; simp [dotL, hr0])
          obtain ⟨T, hTe⟩ : ∃ T : ByteArray, (⟨(digs (cd k r)).toArray⟩ : ByteArray) = T := ⟨_, rfl⟩
          have hTl : T.data.toList = digs (cd k r) := by rw [← hTe]
          obtain ⟨m, hm⟩ : ∃ m, M.length = m := ⟨_, rfl⟩
          have hsize : T.size = m + 1 := by
            have : T.data.toList.length = T.size := Array.length_toList
            rw [← this, hTl, digs_len, hMd]
            simp [hm]
          have hmb : m ≤ 62 := by have := HQ.out; rw [hMd] at hlen; simp [hm] at hlen; omega
          obtain ⟨d2, hd2, hd29, hbyte⟩ := digs_at hTl hL9 m (by omega)
          have hdd : d2 = d := by
            rw [hMd, ← hm] at hd2
            simpa using hd2.symm
          have hb : ((T[m].toNat : Int) == 48) = false := by
            rw [beq_eq_false_iff_ne, hbyte]
            omega
          have hne : (!T.toList.isEmpty) = true := by
            rw [Go.ByteArray.toList_eq, hTl, hMd]
            simp [digs]
          have he : strD (cd k r) = .string T := by rw [← hTe]
          have HE := Lib.hid hTe
          rw [he]
          clear hT hL9 hlast hlen hrl hnq hTl hMd hd0 hd9 hTe hm hd2 hd29 hbyte hdd he
          go_wp2_with fail
          go_loop [7] (fun s7 => s7 = .string T) (fun _ => 0)
          case atStart => rfl
          case round =>
            subst hrel
            go_wp2_with fail
            (with_reducible refine HU.out.mono ?_)
            rintro e w3 ⟨rfl, rfl⟩
            go_wp2_with fail
            go_ret
            exact ⟨by rw [HT.out, ← list_app, ← list_app, ← list_app, HE.out]; rfl, HB.out⟩

end Go.Proofs.YtiokdfkddcokoaaGreatDoor
