/- Walks: deci.Text. Conditions: the table of powers of ten reads as listed. -/
import Derived.Test.YtnifbipbpengeaaDoorDeciPlain
import Derived.Test.YtnifbipbpengeaaDoorDeciWhole
import Derived.Test.YtnifbipbpengeaaDoorBuilder
import Derived.Test.YtnifbipbpengeaaDoorFormatUint
import Derived.Deep.DeepCutAuto
import Derived.Deep.LoopGhost
namespace Go.Proofs.YtnifbipbpengeaaDoor
open Go.RowKit

theorem isB_drew {B b : Nat} {bs : List Value} {w : World} (h : IsB B b bs w) : IsB B b bs w.drew := h
theorem isB_drewN {B b : Nat} {bs : List Value} {w : World} (h : IsB B b bs w) (n : Nat) : IsB B b bs (w.drewN n) := h
/-- A builder outlives what makes new memory only. -/
theorem isB_below {B b : Nat} {bs : List Value} {w w' : World} (h : IsB B b bs w) (hb : Below w.heap.size w w') : IsB B b bs w' := by
  have key : ∀ p, Lib.BuilderAt 51 5 B b p bs w → Lib.BuilderAt 51 5 B b p bs w' := fun p ⟨hB, v, hh, hown, hne⟩ => by
    have hlt := blk_lt hh
    refine ⟨hB, v, (hb.block b hlt).trans hh, ?_, hne⟩
    rcases hown.2 with ⟨rfl, h0⟩ | ⟨g, cap, cur, rfl, hg, hgh, h1⟩
    · exact ⟨hown.1, .inl ⟨rfl, h0⟩⟩
    · exact ⟨hown.1, .inr ⟨g, cap, cur, rfl, hg, (hb.block g (blk_lt hgh)).trans hgh, h1⟩⟩
  rcases h with h | h
  · exact .inl (key _ h)
  · exact .inr (key _ h)

theorem decText_no (x q : Int) (hq : ¬ (0 ≤ q ∧ q ≤ 62)) (w : World) : Calls Tryd.prog 15 #[.int .i64 x, .int .i64 q] w fun e w' => e = .returned (.string ⟨#[]⟩) ∧ w = w' := by
  have C := right_any q w
  rw [decide_eq_false hq] at C
  have H := Lib.hid C
  clear C hq
  go_enter Tryd.func15, Tryd.ntmps15
  go_wp2_with fail
  (with_reducible refine H.out.mono ?_)
  rintro e w1 ⟨rfl, rfl⟩
  go_wp2
  go_ret
  exact ⟨rfl, rfl⟩

theorem wrap_abs (x : Int) (hx : -9223372036854775808 ≤ x ∧ x ≤ 9223372036854775807) (hn : x < 0) : IntKind.u64.wrap (-IntKind.u64.wrap x) = (x.natAbs : Int) := by
  rw [IntKind.wrap_u64, IntKind.wrap_u64]; omega
theorem wrap_pos (x : Int) (hx : -9223372036854775808 ≤ x ∧ x ≤ 9223372036854775807) (hn : ¬ x < 0) : IntKind.u64.wrap x = (x.natAbs : Int) := by
  rw [IntKind.wrap_u64]; omega

/-- What stands between the pieces of Text: a number in a slot, and the bytes that the builder holds. -/
def TextAt (w : World) (l : List UInt8) (n : Nat) (s : Value) (wx : World) : Prop := s = .int .u64 n ∧ IsB w.heap.size w.heap.size (Lib.byteCells l) wx ∧ Below w.heap.size w wx

def signL (x : Int) : List UInt8 := if x < 0 then [45] else []

theorem text_len (x : Int) (u : Nat) (h : u < 18446744073709551616) : (Lib.byteCells (signL x)).length + (⟨(Lib.decDigits u).toArray⟩ : ByteArray).size ≤ 140737488355328 := by
  have h1 : (⟨(Lib.decDigits u).toArray⟩ : ByteArray).size = (Lib.decDigits u).length := by simp [ByteArray.size]
  have h2 := Lib.nDigits_le20 u h
  have h3 := Lib.decDigits_length u
  rw [h1, Lib.byteCells_length]
  unfold signL
  split <;> simp <;> omega

/-- The word arithmetic of one digit. -/
theorem digit_word {q r hi lo : Nat} (hq : q ≤ 62) (hr : r < p2 q) (hhi : r * 10 / 18446744073709551616 = hi) (hlo : r * 10 % 18446744073709551616 = lo) (h0 : 0 < q) :
    ∃ m A L d c : Nat, IntKind.i64.wrap (64 - (q : Int)) = (m : Int) ∧ (m : Int) ≤ 64 ∧ IntKind.u64.wrap ((hi : Int) * 2 ^ m) = (A : Int) ∧ (lo : Int) / 2 ^ q = (L : Int) ∧ bits .or .u64 (A : Int) (L : Int) = (d : Int) ∧
      IntKind.u8.wrap (d : Int) = (d : Int) ∧ IntKind.u8.wrap (48 + (d : Int)) = (c : Int) ∧ c = 48 + 10 * r / p2 q ∧ lo % p2 q = 10 * r % p2 q := by
  have hp := p2_pos q
  have hm := p2_mul (64 - q) q
  rw [show 64 - q + q = 64 by omega] at hm
  have h64 : p2 64 = 18446744073709551616 := by decide
  rw [h64] at hm
  have hpm := p2_pos (64 - q)
  have hd := digit_le hr
  have hsum : hi * 18446744073709551616 + lo = r * 10 := by omega
  have hL : lo / p2 q < p2 (64 - q) := (Nat.div_lt_iff_lt_mul hp).2 (by rw [hm]; omega)
  have hA : 10 * r / p2 q = hi * p2 (64 - q) + lo / p2 q := by
    rw [show 10 * r = lo + hi * p2 (64 - q) * p2 q by rw [Nat.mul_assoc, hm]; omega, Nat.add_mul_div_right _ _ hp]; omega
  have hM : lo % p2 q = 10 * r % p2 q := by
    rw [show 10 * r = lo + hi * p2 (64 - q) * p2 q by rw [Nat.mul_assoc, hm]; omega, Nat.add_mul_mod_self_right]
  have hsh := shr_nat q lo
  have hor := Nat.two_pow_add_eq_or_of_lt (i := 64 - q) hL hi
  rw [show 2 ^ (64 - q) = p2 (64 - q) from rfl, Nat.mul_comm] at hor
  generalize lo / p2 q = L at hL hA hsh hor
  generalize 10 * r / p2 q = d at hd hA
  have hpi := p2_int (64 - q)
  have hAI : (hi : Int) * 2 ^ (64 - q) = ((hi * p2 (64 - q) : Nat) : Int) := by rw [hpi, Int.natCast_mul]
  generalize hi * p2 (64 - q) = A at hA hor hAI
  refine ⟨64 - q, A, L, d, 48 + d, ?_, by omega, ?_, hsh, ?_, ?_, ?_, rfl, hM⟩
  · rw [IntWalk.i64_in _ (by omega)]; omega
  · rw [hAI, IntKind.wrap_u64]; omega
  · rw [u64_or_nat _ _ (by omega) (by omega), hA]
    congr 1
    exact hor.symm
  · rw [IntKind.wrap_u8']; omega
  · rw [IntKind.wrap_u8']; omega

theorem digit_cell {d : Nat} (h : d ≤ 9) : Lib.byteCells [UInt8.ofNat (48 + d)] = [.int .u8 ((48 + d : Nat) : Int)] := by
  simp [Lib.byteCells]
  omega

def digs (L : List Nat) : List UInt8 := L.map (fun d => UInt8.ofNat (48 + d))
def dotL (r : Nat) : List UInt8 := if r = 0 then [] else [46]
theorem decText_eq (x : Int) (q : Nat) : decText x q = signL x ++ Lib.decDigits (x.natAbs / p2 q) ++ dotL (x.natAbs % p2 q) ++ digs (cd q (x.natAbs % p2 q)) := by
  unfold decText signL dotL fracText digs
  by_cases h : x.natAbs % p2 q = 0
  · simp [h, cd_nil]
  · simp [h]

set_option maxHeartbeats 2000000 in
set_option maxRecDepth 100000 in
theorem decText_any (x : Int) (q : Nat) (hq : q ≤ 62) (hx : -9223372036854775808 ≤ x ∧ x ≤ 9223372036854775807) (B : Nat) (w : World) (hp : Pow B w) (hB : B ≤ w.heap.size) :
    Calls Tryd.prog 15 #[.int .i64 x, .int .i64 q] w fun e w' => e = .returned (.string ⟨(decText x q).toArray⟩) ∧ Below w.heap.size w w' := by
  have C := right_any q w
  rw [decide_eq_true (by omega)] at C
  have HC := Lib.hid C
  have HQ := Lib.hid hq
  have HX := Lib.hid hx
  have HP := Lib.hid hp
  obtain ⟨h1, h2⟩ : 0 ≤ (q : Int) ∧ (q : Int) ≤ 64 := by omega
  have HF := Lib.hid (Lib.fresh_isBuilder 51 5 w)
  clear C hq hx hp
  go_enter Tryd.func15, Tryd.ntmps15
  go_upto_if 16 with (first
      | (go_at_call 18; (with_reducible refine HC.out.mono ?_); rintro e w1 ⟨rfl, rfl⟩))
  go_cut [6] (fun s6 wx => TextAt w (signL x) x.natAbs s6 wx)
  case first =>
    by_cases hneg : x < 0
    · have hw := wrap_abs x HX.out hneg
      go_wp2_with (first
        | (go_at_call 19; (with_reducible refine (writeByte_any _ _ _ 45 _ HF.out (by simp) (by simp)).mono ?_); rintro e w2 ⟨rfl, hB2, hb2⟩))
      go_meet
      exact ⟨rfl, by rw [signL, if_pos hneg]; exact hB2, ((Below.refl _ _).alloc (Nat.le_refl _) _).trans hb2⟩
    · have hw := wrap_pos x HX.out hneg
      go_wp2_with fail
      go_meet
      exact ⟨rfl, by rw [signL, if_neg (by omega)]; exact HF.out, (Below.refl _ _).alloc (Nat.le_refl _) _⟩
  case rest =>
    obtain ⟨rfl, hB1, hb1⟩ := hcut
    have hn64 : x.natAbs < 18446744073709551616 := by have := HX.out; omega
    have hT := decText_eq x q
    have hr : x.natAbs % p2 q < p2 q := Nat.mod_lt _ (p2_pos q)
    have e1 := shr_nat q x.natAbs
    have e2 := wrap_p2 HQ.out
    have e3 := wrap_mask HQ.out
    have e4 := and_mask HQ.out x.natAbs hn64
    have hnq : x.natAbs / p2 q < 18446744073709551616 := Nat.lt_of_le_of_lt (Nat.div_le_self _ _) hn64
    generalize x.natAbs / p2 q = u0 at e1 hnq hT
    generalize x.natAbs % p2 q = r0 at e4 hT hr
    have HLN := Lib.hid (show (Lib.byteCells (signL x)).length + (⟨(Lib.decDigits u0).toArray⟩ : ByteArray).size ≤ 140737488355328 from text_len x _ hnq)
    have hlen : (signL x ++ Lib.decDigits u0).length ≤ 100 := by
      have h2 := Lib.nDigits_le20 u0 hnq
      have h3 := Lib.decDigits_length u0
      unfold signL
      split <;> simp <;> omega
    have HB1 := Lib.hid hb1
    have HI1 := Lib.hid hB1
    have HFU := Lib.hid (formatUint_any u0 hnq B wc (HP.out.on (hb1.mono hB)))
    have HT0 := Lib.hid hT
    have HR := Lib.hid hr
    have HLE := Lib.hid hlen
    clear hb1 hB1 hn64 hnq hT hr hlen
    obtain ⟨msk, hmsk⟩ : ∃ msk, p2 q - 1 = msk := ⟨_, rfl⟩
    rw [hmsk] at e3 e4
    have HM := Lib.hid hmsk
    clear hmsk
    go_upto_if 31 with (first
      | (go_at_call 21; (with_reducible refine HFU.out.mono ?_); rintro e w3 ⟨rfl, hb3⟩;
         have HB3 := Lib.hid hb3; clear hb3)
      | (go_at_call 20; (with_reducible refine (writeString_any _ _ _ ⟨(Lib.decDigits u0).toArray⟩ _ (isB_below HI1.out HB3.out) HLN.out (by have := HB1.out.size; have := HB3.out.size; omega)).mono ?_); rintro e w4 ⟨rfl, hI4, hb4⟩;
         have HB4 := Lib.hid hb4; have HI4 := Lib.hid hI4; clear hI4 hb4))
    have hI5 : IsB w.heap.size w.heap.size (Lib.byteCells (signL x ++ Lib.decDigits u0)) w4 := by
      rw [Lib.byteCells_append]; exact HI4.out
    have HI5 := Lib.hid hI5
    have HB5 := Lib.hid ((HB1.out.trans (HB3.out.mono HB1.out.size)).trans HB4.out)
    have hT := HT0.out
    generalize signL x ++ Lib.decDigits u0 = l0 at hT HLE HI5
    have HT := Lib.hid hT
    clear hI5 hT HT0 HI4 e1 e4 HFU HLN HI1
    go_cut [7] (fun s7 wx => TextAt w (l0 ++ dotL r0) r0 s7 wx)
    case first =>
      by_cases h0 : r0 = 0
      · have hd : ¬ (0 : Int) < (r0 : Int) := by omega
        have H0 := Lib.hid h0
        clear h0
        go_wp2_with fail
        go_meet
        exact ⟨rfl, by rw [dotL, if_pos H0.out, List.append_nil]; exact HI5.out, HB5.out⟩
      · have hd : (0 : Int) < (r0 : Int) := by omega
        have H0 := Lib.hid h0
        clear h0
        go_wp2_with (first
          | (go_at_call 19; (with_reducible refine (writeByte_any _ _ _ 46 _ HI5.out (by have := HLE.out; rw [Lib.byteCells_length]; omega) HB5.out.size).mono ?_); rintro e w6 ⟨rfl, hI6, hb6⟩))
        go_meet
        exact ⟨rfl, by rw [dotL, if_neg H0.out, Lib.byteCells_append]; exact hI6, HB5.out.trans hb6⟩
    case rest =>
      obtain ⟨rfl, hI6, hb6⟩ := hcut
      have HI6 := Lib.hid hI6
      have HB6 := Lib.hid hb6
      clear hI6 hb6
      go_wp2_with fail
      go_loopw [7] (fun s7 wr => ∃ r l, s7 = .int .u64 ((r : Nat) : Int) ∧ r < p2 q ∧ IsB w.heap.size w.heap.size (Lib.byteCells l) wr ∧ l ++ digs (cd q r) = decText x q ∧ Below w.heap.size w wr ∧ l.length + (cd q r).length ≤ 1100) (fun s7 _ => (cd q (intOf s7).toNat).length)
      case atStart => exact ⟨r0, _, rfl, HR.out, HI6.out, HT.out.symm, HB6.out, by have h1 := HLE.out; have h2 := cd_length q r0; have h3 := HQ.out; have h4 : (dotL r0).length ≤ 1 := (by unfold dotL; split <;> simp); rw [List.length_append]; omega⟩
      case round =>
        obtain ⟨r, l, rfl, hr, hI, hl, hb, hle⟩ := hrel
        have HI := Lib.hid hI
        have HL := Lib.hid (And.intro hl (And.intro hb hle))
        have HR := Lib.hid hr
        clear hI hl hb hle hr
        by_cases h0 : r = 0
        · have hd : ¬ (0 : Int) < (r : Int) := by omega
          have H0 := Lib.hid h0
          clear h0
          go_wp2_with fail
          (with_reducible refine (Tryd.Builder_String_any _ _ _ _ HI.out HL.out.2.1.size).mono ?_)
          rintro e w8 ⟨rfl, hb8⟩
          go_wp2
          go_ret
          have h := HL.out.1
          rw [H0.out, cd_nil] at h
          simp [digs] at h
          exact ⟨by rw [h]; rfl, HL.out.2.1.trans hb8⟩
        · have hd : (0 : Int) < (r : Int) := by omega
          have hr10 := HR.out
          go_wp2_with fail
          have C : Calls Tryd.prog 22 #[.int .u64 r, .int .u64 10] wr _ := Tryd.bits_Mul64 r 10 (by have := p2_le HQ.out; omega) (by omega) wr
          (with_reducible refine C.mono ?_)
          rintro e w8 ⟨rfl, rfl⟩
          obtain ⟨hi, hhi⟩ : ∃ hi, r * 10 / 18446744073709551616 = hi := ⟨_, rfl⟩
          obtain ⟨lo, hlo⟩ : ∃ lo, r * 10 % 18446744073709551616 = lo := ⟨_, rfl⟩
          rw [hhi, hlo]
          have hq0 : 0 < q := by
            rcases Nat.eq_zero_or_pos q with hz | hz
            · have := HR.out
              simp [hz, p2] at this
              omega
            · exact hz
          obtain ⟨m, A, L, d, c, g1, g2, g3, g4, g5, g6, g7, g8⟩ := digit_word HQ.out HR.out hhi hlo hq0
          have HG := Lib.hid g8
          have hlo64 : lo < 18446744073709551616 := by omega
          have k4 := and_mask HQ.out lo hlo64
          rw [HM.out] at k4
          obtain ⟨r', hr'⟩ : ∃ r', lo % p2 q = r' := ⟨_, rfl⟩
          rw [hr'] at k4
          have HR' := Lib.hid hr'
          clear C hhi hlo g8 hlo64 hq0 hr'
          go_wp2_with fail
          have q2 := Lib.hid (show w.heap.size ≤ w8.drew.heap.size from HL.out.2.1.size)
          go_region_held3 (fun w' => True) (exact trivial)
            (first
              | (go_at_call 19
                 (with_reducible refine (writeByte_any _ _ _ c _ (isB_drew HI.out) (by have := HL.out.2.2; rw [Lib.byteCells_length]; omega) q2.out).mono ?_)
                 rintro e w9 ⟨rfl, hI9, hb9⟩))
          have HI9 := Lib.hid hI9
          have HB9 := Lib.hid ((below_drew HL.out.2.1).trans hb9)
          clear hI9 hb9
          go_wp2
          have hstep := cd_step q r HR.out h0
          rw [← HG.out.2, HR'.out] at hstep
          have hd9 := digit_le HR.out
          go_roundw
          case rel =>
            refine ⟨r', l ++ [UInt8.ofNat (48 + 10 * r / p2 q)], rfl, ?_, ?_, ?_, HB9.out, ?_⟩
            · rw [← HR'.out]; exact Nat.mod_lt _ (p2_pos q)
            · rw [Lib.byteCells_append]
              have hc : Lib.byteCells [UInt8.ofNat (48 + 10 * r / p2 q)] = [.int .u8 (c : Int)] := by
                rw [HG.out.1]
                exact digit_cell hd9
              rw [hc]
              exact HI9.out
            · have h := HL.out.1
              rw [hstep] at h
              rw [← h]
              simp [digs]
            · have h := HL.out.2.2
              rw [hstep] at h
              simp at h ⊢
              omega
          case measure =>
            simp only [intOf, Int.toNat_natCast]
            rw [hstep]
            simp

end Go.Proofs.YtnifbipbpengeaaDoor
