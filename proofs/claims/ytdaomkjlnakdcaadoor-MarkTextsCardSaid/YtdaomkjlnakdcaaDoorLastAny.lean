/- Walks: strings.LastIndexAny at "+-" and ASCII strings. Conditions: none. -/
import Derived.Test.YtdaomkjlnakdcaaDoorShelfC
import Derived.Test.YtdaomkjlnakdcaaDoorRefNum
import Derived.Lib.AsciiSet
import Derived.Deep.WholeRow
import Derived.Deep.LoopGhost
import Derived.Lib.Builder
namespace Go.Proofs.YtdaomkjlnakdcaaDoor
open Go.RowKit

set_option maxRecDepth 100000 in
set_option maxHeartbeats 400000 in
theorem decodeLast_ascii (s : ByteArray) (n : Nat) (w : World) (hs : s.size = n + 1) (hl : n ≤ 1048576) (c : UInt8) (hc : s.data.toList[n]? = some c) (h7 : c.toNat < 128) :
    Calls Tryd.prog 76 #[.string s] w fun e w' => e = .returned (.tuple #[.int .i32 (c.toNat : Int), .int .i64 1]) ∧ w = w' := by
  have hlt : n < s.size := by omega
  have hat : s[n] = c := by
    have h1 : s.data.toList[n]? = some s[n] := by
      have h2 := drop_at s n hlt
      have : (s.data.toList.drop n)[0]? = some s[n] := by rw [h2]; rfl
      simpa using this
    rw [h1] at hc
    injection hc
  have hb : ((s[n].toNat : Int)) < 128 := by rw [hat]; omega
  have hz : ((n : Int) + 1 == 0) = false := by rw [beq_eq_false_iff_ne]; omega
  have HC := Lib.hid hat
  have hl' : (n : Int) ≤ 1048576 := by omega
  clear hc hat hl
  go_enter Tryd.func76, Tryd.ntmps76
  go_wp2_with fail
  go_ret2
  exact ⟨by rw [← HC.out]; rfl, rfl⟩

/-- The last sign of a text stands at i. -/
def SignAtEnd (s : ByteArray) (i : Nat) : Prop := (∃ c, s.data.toList[i]? = some c ∧ (c = 43 ∨ c = 45)) ∧ ∀ j c, i < j → s.data.toList[j]? = some c → c ≠ 43 ∧ c ≠ 45
def Ascii (s : ByteArray) : Prop := ∀ (j : Nat) c, s.data.toList[j]? = some c → c.toNat < 128

theorem sign_index {c : UInt8} (h7 : c.toNat < 128) : Lib.indexByte [43, 45] (c.toNat : Int).toNat.toUInt8 = if c = 43 then 0 else if c = 45 then 1 else -1 := by
  have e : (c.toNat : Int).toNat.toUInt8 = c := by simp
  rw [e]
  by_cases h1 : c = 43
  · subst h1; decide
  · by_cases h2 : c = 45
    · subst h2; decide
    · rw [if_neg h1, if_neg h2]
      simp [Lib.indexByte, Ne.symm h1, Ne.symm h2]

theorem take_ext (s : ByteArray) (m : Nat) : (s.extract 0 m).data.toList = s.data.toList.take m := by
  rw [Lib.extract_data]; simp

set_option maxRecDepth 100000 in
set_option maxHeartbeats 1000000 in
theorem lastAny_short (s : ByteArray) (i : Nat) (w : World) (h2 : 2 ≤ s.size) (h8 : s.size ≤ 8) (ha : Ascii s) (hi : SignAtEnd s i) :
    Calls Tryd.prog 60 #[.string s, .string ⟨#[43, 45]⟩] w fun e w' => e = .returned (.int .i64 i) ∧ w = w' := by
  have hz1 : ((s.size : Int) == 1) = false := by rw [beq_eq_false_iff_ne]; omega
  have hlen : s.data.toList.length = s.size := Array.length_toList
  have HU : Hid (∀ W, Calls Tryd.prog 73 #[.int .i64 s.size] W fun e w' => e = .returned (.bool false) ∧ W = w') := Lib.hid fun W =>
    (Tryd.strings_shouldUseASCIISet s.size W).mono fun _ _ ⟨he, hw⟩ => ⟨by rw [he, decide_eq_false (by omega)], hw.symm⟩
  have HA := Lib.hid (And.intro ha (And.intro hi (And.intro hlen h8)))
  have h8' : (s.size : Int) ≤ 8 := by omega
  clear ha hi hlen h2 h8
  go_enter Tryd.func60, Tryd.ntmps60
  go_wp2_with fail
  (with_reducible refine (HU.out _).mono ?_)
  rintro e w1 ⟨rfl, rfl⟩
  go_wp2_with fail
  go_loop [13] (fun m' => ∃ m : Nat, m ≤ s.size ∧ m' = .int .i64 m ∧ i < m) (fun m' => (intOf m').toNat)
  case atStart =>
    obtain ⟨c, hc, _⟩ := HA.out.2.1.1
    have := (List.getElem?_eq_some_iff.1 hc).1
    rw [HA.out.2.2.1] at this
    exact ⟨s.size, Nat.le_refl _, rfl, this⟩
  case round =>
    obtain ⟨m, hm, rfl, hlt⟩ := hrel
    obtain ⟨n, rfl⟩ : ∃ n, m = n + 1 := ⟨m - 1, by omega⟩
    obtain ⟨c, hc⟩ := get_some s.data.toList n (by rw [HA.out.2.2.1]; omega)
    have h7 := HA.out.1 n c hc
    obtain ⟨t, ht⟩ : ∃ t, s.extract 0 (n + 1) = t := ⟨_, rfl⟩
    have htl : t.data.toList = s.data.toList.take (n + 1) := by rw [← ht, take_ext]
    have hts : t.size = n + 1 := by
      have : t.data.toList.length = t.size := Array.length_toList
      rw [htl, List.length_take, HA.out.2.2.1] at this
      omega
    have HD := Lib.hid (decodeLast_ascii t n w hts (by have := HA.out.2.2.2; omega) c (by rw [htl, List.getElem?_take, if_pos (by omega)]; exact hc) h7)
    have HI := Tryd.strings_IndexRune_ascii ⟨#[43, 45]⟩ (c.toNat : Int) w (by omega) (by omega)
    rw [show (⟨#[43, 45]⟩ : ByteArray).data.toList = [43, 45] from rfl, sign_index h7] at HI
    have hp : (0 : Int) < ((n + 1 : Nat) : Int) := by omega
    have hle : ((n + 1 : Nat) : Int) ≤ (s.size : Int) := by omega
    by_cases hs : c = 43 ∨ c = 45
    · have hni : n = i := by
        rcases Nat.lt_or_ge i n with h | h
        · have := HA.out.2.1.2 n c h hc
          rcases hs with h1 | h1
          · exact absurd h1 this.1
          · exact absurd h1 this.2
        · omega
      have hx : ∃ x : Int, (if c = 43 then (0 : Int) else if c = 45 then 1 else -1) = x ∧ 0 ≤ x := by
        rcases hs with h1 | h1
        · exact ⟨0, by rw [if_pos h1], by omega⟩
        · exact ⟨1, by rw [if_neg (by rw [h1]; decide), if_pos h1], by omega⟩
      obtain ⟨x, hx, hx0⟩ := hx
      rw [hx] at HI
      have HII := Lib.hid HI
      have HN := Lib.hid hni
      clear hc h7 htl hts HI hs hni hx
      go_wp2_with fail
      (with_reducible refine HD.out.mono ?_)
      rintro e w1 ⟨rfl, rfl⟩
      go_wp2_with fail
      (with_reducible refine HII.out.mono ?_)
      rintro e w1 ⟨rfl, rfl⟩
      go_wp2_with fail
      go_ret
      exact ⟨by rw [← HN.out]; rfl, rfl⟩
    · have hni : i < n := by
        rcases Nat.lt_or_ge i n with h | h
        · exact h
        · obtain ⟨c2, hc2, hs2⟩ := HA.out.2.1.1
          have : n = i := by omega
          subst this
          rw [hc] at hc2
          injection hc2 with hc2
          subst hc2
          exact absurd hs2 hs
      rw [if_neg (fun h => hs (.inl h)), if_neg (fun h => hs (.inr h))] at HI
      have HII := Lib.hid HI
      clear hc h7 htl hts HI hs
      go_wp2_with fail
      (with_reducible refine HD.out.mono ?_)
      rintro e w1 ⟨rfl, rfl⟩
      go_wp2_with fail
      (with_reducible refine HII.out.mono ?_)
      rintro e w1 ⟨rfl, rfl⟩
      go_wp2_with fail
      go_round
      case rel => exact ⟨n, by omega, rfl, hni⟩
      case measure => simp [intOf]

theorem set_zero (w : World) : (zeroValue 106).run Tryd.prog w = .ok (.agg (Array.replicate 256 (.bool false))) w := by kernel_rfl

theorem signs_contain (x : UInt8) : ([43, 45] : List UInt8).contains x = decide (x = 43 ∨ x = 45) := by
  simp [List.contains_eq_mem]

set_option maxRecDepth 1000000 in
set_option maxHeartbeats 8000000 in
theorem lastAny_long (s : ByteArray) (i : Nat) (w : World) (h8 : 8 < s.size) (hl : s.size ≤ 1048576) (hi : SignAtEnd s i) :
    Calls Tryd.prog 60 #[.string s, .string ⟨#[43, 45]⟩] w fun e w' => e = .returned (.int .i64 i) ∧ Below w.heap.size w w' := by
  have hM := Tryd.strings_makeASCIISet set_zero ⟨#[43, 45]⟩ w (by decide) (by
    intro j b hb
    match j, hb with
    | 0, hb => simp at hb; subst hb; decide
    | 1, hb => simp at hb; subst hb; decide
    | n + 2, hb => simp at hb)
  rw [show (⟨#[43, 45]⟩ : ByteArray).data.toList = [43, 45] from rfl] at hM
  have hz1 : ((s.size : Int) == 1) = false := by rw [beq_eq_false_iff_ne]; omega
  have hlen : s.data.toList.length = s.size := Array.length_toList
  have HU : Hid (∀ W, Calls Tryd.prog 73 #[.int .i64 s.size] W fun e w' => e = .returned (.bool true) ∧ W = w') := Lib.hid fun W =>
    (Tryd.strings_shouldUseASCIISet s.size W).mono fun _ _ ⟨he, hw⟩ => ⟨by rw [he, decide_eq_true (by omega)], hw.symm⟩
  obtain ⟨C, hCdef⟩ : ∃ C, Lib.setCells [43, 45] = C := ⟨_, rfl⟩
  rw [hCdef] at hM
  have hsz : C.size = 256 := by rw [← hCdef]; exact Lib.setCells_size _
  have hone := Lib.setCells_one [43, 45]
  rw [hCdef] at hone
  obtain ⟨W, hW⟩ : ∃ W, ((w.alloc (.cells C 106)).alloc (.cells C 106)) = W := ⟨_, rfl⟩
  have hsc : (storeCells ⟨w.heap.size + 1, 0, none⟩ C.toList 0).run Tryd.prog ((w.alloc (.cells C 106)).alloc (.cells Tryd.zeroCells106 106)) = .ok () ((w.alloc (.cells C 106)).alloc (.cells C 106)) := by
    have := run_storeCells_new (P := Tryd.prog) (w.alloc (.cells C 106)) 106 Tryd.zeroCells106 C (by rw [hsz]; kernel_rfl) (by rw [hsz]; kernel_rfl) hone
    simpa using this
  have HC : Hid (∀ x : UInt8, W.cell? ⟨w.heap.size + 1, x.toNat, none⟩ = some (.bool (decide (x = 43 ∨ x = 45)))) := Lib.hid fun x => by
    rw [← hW, World.cell?_alloc_at _ _ _ _ (by simp), ← hCdef, Lib.setCells_at, signs_contain]
  have HB : Hid (Below w.heap.size w W) := Lib.hid (by
    rw [← hW]
    exact ((Below.refl _ _).alloc (Nat.le_refl _) _).alloc (by simp) _)
  have HA := Lib.hid (And.intro hi hlen)
  have h8' : (8 : Int) < s.size := by omega
  have hl' : (s.size : Int) ≤ 1048576 := by omega
  clear hi hlen h8 hl hCdef hone
  go_enter Tryd.func60, Tryd.ntmps60
  go_wp2_with fail
  (with_reducible refine (HU.out _).mono ?_)
  rintro e w1 ⟨rfl, rfl⟩
  go_wp2_with fail
  (with_reducible refine hM.mono ?_)
  rintro e w1 ⟨rfl, rfl⟩
  go_wp2_with fail
  clear hM hsc hW hsz
  go_loop [8] (fun m' => ∃ m : Nat, m < s.size ∧ m' = .int .i64 m ∧ i ≤ m) (fun m' => (intOf m').toNat)
  case atStart =>
    obtain ⟨c, hc, _⟩ := HA.out.1.1
    have := (List.getElem?_eq_some_iff.1 hc).1
    rw [HA.out.2] at this
    refine ⟨s.size - 1, by omega, ?_, by omega⟩
    rw [show ((s.size : Int) - 1) = ((s.size - 1 : Nat) : Int) by omega]
  case round =>
    obtain ⟨m, hm, rfl, hle⟩ := hrel
    obtain ⟨c, hc⟩ := get_some s.data.toList m (by rw [HA.out.2]; omega)
    have hat : s[m] = c := by
      have h1 : s.data.toList[m]? = some s[m] := Lib.data_getElem? s m hm
      rw [h1] at hc
      injection hc
    have hcx := HC.out c
    have h0 : (0 : Int) ≤ m := by omega
    by_cases hs : c = 43 ∨ c = 45
    · have hni : m = i := by
        rcases Nat.lt_or_ge i m with h | h
        · have := HA.out.1.2 m c h hc
          rcases hs with h1 | h1
          · exact absurd h1 this.1
          · exact absurd h1 this.2
        · omega
      rw [decide_eq_true hs] at hcx
      have HK := Lib.hid (Tryd.asciiSet_contains (w.heap.size + 1) c true W hcx)
      have HN := Lib.hid hni
      clear hc hs hni hcx hle
      go_wp2_with fail
      (with_reducible refine HK.out.mono ?_)
      rintro e w1 ⟨rfl, rfl⟩
      go_wp2_with fail
      go_ret
      exact ⟨by rw [← HN.out]; rfl, HB.out⟩
    · have hni : i < m := by
        rcases Nat.lt_or_ge i m with h | h
        · exact h
        · obtain ⟨c2, hc2, hs2⟩ := HA.out.1.1
          have : m = i := by omega
          subst this
          rw [hc] at hc2
          injection hc2 with hc2
          subst hc2
          exact absurd hs2 hs
      rw [decide_eq_false hs] at hcx
      have HK := Lib.hid (Tryd.asciiSet_contains (w.heap.size + 1) c false W hcx)
      have HN := Lib.hid hni
      clear hc hs hni hcx hle
      go_wp2_with fail
      (with_reducible refine HK.out.mono ?_)
      rintro e w1 ⟨rfl, rfl⟩
      go_wp2_with fail
      go_round
      case rel => exact ⟨m - 1, by omega, by rw [show ((m : Int) - 1) = ((m - 1 : Nat) : Int) by have := HN.out; omega], by have := HN.out; omega⟩
      case measure => simp [intOf]; have := HN.out; omega

end Go.Proofs.YtdaomkjlnakdcaaDoor
