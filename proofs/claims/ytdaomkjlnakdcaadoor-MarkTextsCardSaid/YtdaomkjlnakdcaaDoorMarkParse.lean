/- Walks: mark.Parse at the text of a mark; the reference's Text. Conditions: the table of powers of ten and the two sentinels read as listed. -/
import Derived.Test.YtdaomkjlnakdcaaDoorLastAny
import Derived.Test.YtdaomkjlnakdcaaDoorMarkText
import Derived.Test.YtdaomkjlnakdcaaDoorNumber
import Derived.Test.YtdaomkjlnakdcaaDoorRefDec
namespace Go.Proofs.YtdaomkjlnakdcaaDoor
open Go.RowKit

theorem dec_digit {u : Nat} {c : UInt8} (h : c ∈ Lib.decDigits u) : 48 ≤ c.toNat ∧ c.toNat ≤ 57 := dec_all u c h

/-- The tail of a mark's text: behind its sign, or whole where the sign is the number's. -/
def tailText (y : Int) : List UInt8 := (if 0 ≤ y then [43] else [45]) ++ Lib.decDigits y.natAbs ++ [105]
theorem markText_tail (x y : Int) : markText x y = Lib.itoa x ++ tailText y := by
  unfold markText tailText
  rw [itoa_parts y]
  by_cases h : 0 ≤ y
  · rw [if_pos h, if_pos h, if_neg (by omega)]; simp
  · rw [if_neg h, if_neg h, if_pos (by omega)]; simp

theorem markText_ascii (x y : Int) : Ascii ⟨(markText x y).toArray⟩ := by
  intro j c hc
  have hm : c ∈ markText x y := List.mem_of_getElem? (by simpa using hc)
  unfold markText at hm
  rw [itoa_parts, itoa_parts] at hm
  simp only [List.mem_append] at hm
  rcases hm with (((h | h) | h) | (h | h)) | h
  · split at h
    · simp at h; subst h; decide
    · simp at h
  · have := dec_digit h; omega
  · split at h
    · simp at h; subst h; decide
    · simp at h
  · split at h
    · simp at h; subst h; decide
    · simp at h
  · have := dec_digit h; omega
  · simp at h; subst h; decide

theorem markText_sign (x y : Int) : SignAtEnd ⟨(markText x y).toArray⟩ (Lib.itoa x).length := by
  have e : (⟨(markText x y).toArray⟩ : ByteArray).data.toList = Lib.itoa x ++ tailText y := by rw [← markText_tail]
  refine ⟨?_, ?_⟩
  · rw [e, List.getElem?_append_right (Nat.le_refl _), Nat.sub_self]
    unfold tailText
    by_cases h : 0 ≤ y
    · exact ⟨43, by rw [if_pos h]; rfl, .inl rfl⟩
    · exact ⟨45, by rw [if_neg h]; rfl, .inr rfl⟩
  · intro j c hj hc
    rw [e, List.getElem?_append_right (by omega)] at hc
    obtain ⟨k, hk⟩ : ∃ k, j - (Lib.itoa x).length = k + 1 := ⟨j - (Lib.itoa x).length - 1, by omega⟩
    rw [hk] at hc
    have hc2 : (Lib.decDigits y.natAbs ++ [105])[k]? = some c := by
      unfold tailText at hc
      by_cases h : 0 ≤ y
      · rw [if_pos h] at hc; simpa using hc
      · rw [if_neg h] at hc; simpa using hc
    have hm := List.mem_of_getElem? hc2
    simp only [List.mem_append] at hm
    rcases hm with h | h
    · have := dec_digit h
      constructor <;> (rintro rfl; simp at this)
    · simp at h; subst h; decide

theorem tail_trim (y : Int) : Lib.trimPrefix (tailText y) [43] = Lib.itoa y ++ [105] := by
  unfold tailText
  rw [itoa_parts]
  by_cases h : 0 ≤ y
  · rw [if_pos h, if_neg (by omega)]
    simp [Lib.trimPrefix, Lib.hasPrefix]
  · rw [if_neg h, if_pos (by omega)]
    simp [Lib.trimPrefix, Lib.hasPrefix]

theorem i_cut (l : List UInt8) : Lib.trimSuffix (l ++ [105]) [105] = l ∧ Lib.hasSuffix (l ++ [105]) [105] = true := by
  have h : Lib.hasSuffix (l ++ [105]) [105] = true := by simp [Lib.hasSuffix]
  refine ⟨?_, h⟩
  unfold Lib.trimSuffix
  rw [h]
  simp

theorem markText_len (x y : Int) (hx : In64 x) (hy : In64 y) : 4 ≤ (markText x y).length ∧ (markText x y).length ≤ 64 := by
  have lx := Lib.itoa_length_le x hx.1 hx.2
  have ly := Lib.itoa_length_le y hy.1 hy.2
  have e := markText_tail x y
  have px : 1 ≤ (Lib.itoa x).length := by
    rw [itoa_parts]
    obtain ⟨c, l, h, _⟩ := dec_cons x.natAbs
    rw [h, List.length_append, List.length_cons]; omega
  have py : 1 ≤ (Lib.decDigits y.natAbs).length := by
    obtain ⟨c, l, h, _⟩ := dec_cons y.natAbs
    rw [h]; simp
  refine ⟨?_, ?_⟩
  · rw [e]
    unfold tailText
    rw [List.length_append, List.length_append, List.length_append]
    split <;> simp <;> omega
  · unfold markText
    rw [List.length_append, List.length_append, List.length_append]
    split <;> simp <;> omega

theorem lastAny_mark (x y : Int) (hx : In64 x) (hy : In64 y) (w : World) :
    Calls Tryd.prog 60 #[.string ⟨(markText x y).toArray⟩, .string ⟨#[43, 45]⟩] w fun e w' => e = .returned (.int .i64 (Lib.itoa x).length) ∧ Below w.heap.size w w' := by
  have hl := markText_len x y hx hy
  have hs : (⟨(markText x y).toArray⟩ : ByteArray).size = (markText x y).length := by simp [ByteArray.size]
  by_cases h8 : (markText x y).length ≤ 8
  · exact (lastAny_short _ _ w (by omega) (by omega) (markText_ascii x y) (markText_sign x y)).mono fun e w' ⟨h1, h2⟩ => ⟨h1, h2 ▸ Below.refl _ _⟩
  · exact lastAny_long _ _ w (by omega) (by omega) (markText_sign x y)

theorem tail_ext (s : ByteArray) (n : Nat) : (s.extract n s.size).data.toList = s.data.toList.drop n := by
  rw [Lib.extract_data]
  have : s.data.toList.length = s.size := Array.length_toList
  rw [List.take_of_length_le (by rw [List.length_drop]; omega)]

theorem cut_i (y : Int) (hy : In64 y) (W : World) : Calls Tryd.prog 61 #[.string ⟨(Lib.itoa y ++ [105]).toArray⟩, .string ⟨#[105]⟩] W fun e w' => e = .returned (.tuple #[.string ⟨(Lib.itoa y).toArray⟩, .bool true]) ∧ W = w' := by
  have h1 : Lib.trimSuffix (⟨(Lib.itoa y ++ [105]).toArray⟩ : ByteArray).data.toList (⟨#[105]⟩ : ByteArray).data.toList = Lib.itoa y := (i_cut _).1
  have h2 : Lib.hasSuffix (⟨(Lib.itoa y ++ [105]).toArray⟩ : ByteArray).data.toList (⟨#[105]⟩ : ByteArray).data.toList = true := (i_cut _).2
  have l := Lib.itoa_length_le y hy.1 hy.2
  refine (Tryd.strings_CutSuffix _ _ W (by simp [ByteArray.size]; omega)).mono fun e w' h => ⟨?_, h.2.symm⟩
  rw [h.1, h1, h2]

theorem trim_plus (s : ByteArray) (y : Int) (hs : s.data.toList = tailText y) (W : World) : Calls Tryd.prog 62 #[.string s, .string ⟨#[43]⟩] W fun e w' => e = .returned (.string ⟨(Lib.itoa y ++ [105]).toArray⟩) ∧ W = w' := by
  have h1 : Lib.trimPrefix s.data.toList (⟨#[43]⟩ : ByteArray).data.toList = Lib.itoa y ++ [105] := by rw [hs]; exact tail_trim y
  refine (Tryd.strings_TrimPrefix _ _ W).mono fun e w' h => ⟨?_, h.2.symm⟩
  rw [h.1, h1]

theorem number_itoa (s : ByteArray) (x : Int) (hs : s.data.toList = Lib.itoa x) (hx : In64 x) (B : Nat) (w : World) (hp : Pow B w) (he : Errs B w) (hB : B ≤ w.heap.size) : Calls Tryd.prog 32 #[.string s] w fun e w' => e = .returned (.tuple #[.int .i64 x, .bool true]) ∧ Below w.heap.size w w' := by
  have l := Lib.itoa_length_le x hx.1 hx.2
  have hz : s.data.toList.length = s.size := Array.length_toList
  have h := number_any s B w (by rw [← hz, hs]; omega) hp he hB
  unfold GivesNumB at h
  rw [hs, numS_yes hx rfl] at h
  exact h

def Good (x : Int) : Prop := -1125899906842624 ≤ x ∧ x ≤ 1125899906842624

set_option maxRecDepth 100000 in
set_option maxHeartbeats 1000000 in
theorem markParse_any (x y : Int) (B : Nat) (w : World) (hx : Good x) (hy : Good y) (hp : Pow B w) (he : Errs B w) (hB : B ≤ w.heap.size) :
    Calls Tryd.prog 39 #[.string ⟨(markText x y).toArray⟩] w fun e w' => (∃ a b : Nat, e = .returned (.tuple #[.complex .f64 a b, .bool true]) ∧ IsF a x ∧ IsF b y) ∧ Below w.heap.size w w' := by
  unfold Good at hx hy
  have hx' : In64 x := by unfold In64; omega
  have hy' : In64 y := by unfold In64; omega
  have HF := Lib.hid (And.intro (IsF.ofInt x (by omega)) (IsF.ofInt y (by omega)))
  have HT := Lib.hid (fun W (hb : Below w.heap.size w W) => markText_any _ _ x y B W (hp.on (hb.mono hB)) (Nat.le_trans hB hb.size) HF.out.1 HF.out.2 hx' hy')
  have HL := Lib.hid (lastAny_mark x y hx' hy' w)
  have hlen := markText_len x y hx' hy'
  have hle : (Lib.itoa x).length ≤ (markText x y).length := by rw [markText_tail, List.length_append]; omega
  have htk : (markText x y).take (Lib.itoa x).length = Lib.itoa x := by rw [markText_tail]; simp
  have hdr : (markText x y).drop (Lib.itoa x).length = tailText y := by rw [markText_tail]; simp
  obtain ⟨n, hn⟩ : ∃ n, (Lib.itoa x).length = n := ⟨_, rfl⟩
  obtain ⟨s, hs⟩ : ∃ s : ByteArray, ⟨(markText x y).toArray⟩ = s := ⟨_, rfl⟩
  have hss : s.size = (markText x y).length := by rw [← hs]; simp [ByteArray.size]
  have hsl : s.data.toList = markText x y := by rw [← hs]
  have e1 : (s.extract n s.size).data.toList = tailText y := by rw [tail_ext, hsl, ← hn, hdr]
  have e2 : (s.extract 0 n).data.toList = Lib.itoa x := by rw [take_ext, hsl, ← hn, htk]
  have HTP := Lib.hid (trim_plus (s.extract n s.size) y e1)
  have HCS := Lib.hid (cut_i y hy')
  have HN1 := Lib.hid (fun W (hb : Below w.heap.size w W) => number_itoa (s.extract 0 n) x e2 hx' B W (hp.on (hb.mono hB)) (he.on (hb.mono hB)) (Nat.le_trans hB hb.size))
  have HN2 := Lib.hid (fun W (hb : Below w.heap.size w W) => number_itoa ⟨(Lib.itoa y).toArray⟩ y rfl hy' B W (hp.on (hb.mono hB)) (he.on (hb.mono hB)) (Nat.le_trans hB hb.size))
  rw [hs] at HT HL ⊢
  rw [hn] at HL
  have hns : (n : Int) ≤ (s.size : Int) := by omega
  have hmax : max (n : Int) 0 = n := by omega
  have hne : (!s.toList == s.toList) = false := by simp
  have n1 : decide (x < -1125899906842624) = false := by simp; omega
  have n2 : decide (1125899906842624 < x) = false := by simp; omega
  have n3 : decide (y < -1125899906842624) = false := by simp; omega
  have n4 : decide (1125899906842624 < y) = false := by simp; omega
  clear hp he hB hlen hle htk hdr hsl e1 e2 hs hss hn
  go_enter Tryd.func39, Tryd.ntmps39
  go_wp2_with fail
  (with_reducible refine HL.out.mono ?_)
  rintro e w1 ⟨rfl, hb1⟩
  have HB1 := Lib.hid hb1
  clear hb1 HL
  go_wp2_with fail
  (with_reducible refine (HTP.out _).mono ?_)
  rintro e w2 ⟨rfl, rfl⟩
  go_wp2_with fail
  (with_reducible refine (HCS.out _).mono ?_)
  rintro e w2 ⟨rfl, rfl⟩
  clear HTP HCS
  go_wp2_with fail
  (with_reducible refine (HN1.out _ HB1.out).mono ?_)
  rintro e w2 ⟨rfl, hb2⟩
  have HB2 := Lib.hid (HB1.out.trans (hb2.mono HB1.out.size))
  clear hb2 HB1 HN1
  go_wp2_with fail
  (with_reducible refine (HN2.out _ HB2.out).mono ?_)
  rintro e w3 ⟨rfl, hb3⟩
  have HB3 := Lib.hid (HB2.out.trans (hb3.mono HB2.out.size))
  clear hb3 HB2 HN2
  go_wp2_with fail
  (with_reducible refine (HT.out _ HB3.out).mono ?_)
  rintro e w4 ⟨rfl, hb4⟩
  have HB4 := Lib.hid (HB3.out.trans (hb4.mono HB3.out.size))
  clear hb4 HB3 HT
  go_wp2_with fail
  go_ret2
  exact ⟨⟨_, _, rfl, HF.out.1, HF.out.2⟩, HB4.out⟩

end Go.Proofs.YtdaomkjlnakdcaaDoor
