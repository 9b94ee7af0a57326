/- Walks: deci.Parse. Conditions: the table of powers of ten, the two sentinels and the library's greatest length read as listed. -/
import Derived.Test.YtiokdfkddcokoaaGreatDoorDeciParsePlain
import Derived.Test.YtiokdfkddcokoaaGreatDoorNumber
import Derived.ScopeJumps
import Derived.WalkMore
import Derived.Test.YtiokdfkddcokoaaGreatDoorMaxL
namespace Go.Proofs.YtiokdfkddcokoaaGreatDoor
open Go.RowKit

theorem cutDash_any (s : ByteArray) (w : World) : Calls Tryz.prog 70 #[.string s, .string ⟨#[45]⟩] w fun e w' => e = .returned (.tuple #[.string ⟨(Lib.trimPrefix s.data.toList [45]).toArray⟩, .bool (Lib.hasPrefix s.data.toList [45])]) ∧ w = w' :=
  (Tryz.strings_CutPrefix s ⟨#[45]⟩ w).mono fun _ _ ⟨he, hw⟩ => ⟨he, hw.symm⟩
theorem cutDot_any (d : List UInt8) (B : Nat) (w : World) (hm : MaxL B w) (hl : d.length ≤ 1048576) : Calls Tryz.prog 71 #[.string ⟨d.toArray⟩, .string ⟨#[46]⟩] w fun e w' => e = .returned (.tuple #[.string ⟨(Lib.cut d [46]).1.toArray⟩, .string ⟨(Lib.cut d [46]).2.1.toArray⟩, .bool (Lib.cut d [46]).2.2]) ∧ ∃ n, w' = w.drewN n := by
  obtain ⟨⟨m, hm⟩, _⟩ := hm
  exact Tryz.strings_Cut ⟨d.toArray⟩ ⟨#[46]⟩ m w (by show d.toArray.size < _; simp; omega) hm

/-- The pair that Parse hands back, with new memory. -/
def GivesParse (l : List UInt8) (q : Int) (w : World) (e : Ending) (w' : World) : Prop := e = .returned (.tuple #[.int .i64 (parseS l q).1, .bool (parseS l q).2]) ∧ Below w.heap.size w w'

/-- What holds where Parse jumps to 'wrong'. -/
def WrongAt (l : List UInt8) (q : Int) (w : World) (a' : Act) (w' : World) : Prop := (∃ u0 u1 u2 u3 u4 u5 u6 u7 u8 u9 u10 u11 u12 u13 u14 u15 u16 u17 u18 u19 u20 u21 u22 u23 u24 u25 u26 u27 u28 u29 u30 u31 u32 u33 u34 u35 u36 u37 u38 u39 u40 u41 u42 u43 u44 u45 u46 u47 u48 u49 u50 u51 u52 u53 u54 u55 u56 u57 u58 u59 u60 u61 u62 u63 u64 : Value, a' = { tmps := #[u0, u1, u2, u3, u4, u5, u6, u7, u8, u9, u10, u11, u12, u13, u14, u15, u16, u17, u18, u19, u20, u21, u22, u23, u24, u25, u26, u27, u28, u29, u30, u31, u32, u33, u34, u35, u36, u37, u38, u39, u40, u41, u42, u43, u44, u45, u46, u47, u48, u49, u50, u51, u52, u53, u54, u55, u56, u57, u58, u59, u60, u61, u62, u63, u64], defers := [] }) ∧ Below w.heap.size w w' ∧ parseS l q = (0, false)

set_option maxRecDepth 100000 in
set_option maxHeartbeats 2000000 in
theorem parse_out (s : ByteArray) (q : Int) (B : Nat) (w : World) (hs : s.size ≤ 1048576) (hm : MaxL B w) (hq : ¬ (0 ≤ q ∧ q ≤ 62)) : Calls Tryz.prog 55 #[.string s, .int .i64 q] w (GivesParse s.data.toList q w) := by
  have hlen : s.data.toList.length = s.size := Array.length_toList
  have htl : (Lib.trimPrefix s.data.toList [45]).length ≤ s.size := by
    unfold Lib.trimPrefix
    split
    · rw [List.length_drop]; omega
    · omega
  have HC := Lib.hid (cutDash_any s w)
  have HD := Lib.hid (cutDot_any (Lib.trimPrefix s.data.toList [45]) B w hm (by omega))
  have C := right_any q w
  rw [decide_eq_false hq] at C
  have HR := Lib.hid (fun W => by have C := right_any q W; rw [decide_eq_false hq] at C; exact C)
  have HN := Lib.hid (parseS_out (l := s.data.toList) hq)
  clear C hs hm hq htl hlen
  go_enter Tryz.func55, Tryz.ntmps55
  go_wp2_with fail
  refine wp_scope_jumps 0 (fun a' w' => WrongAt s.data.toList q w a' w') (fun _ _ => 0) rfl ?_ ?_
  · go_wp2_with fail
    (with_reducible refine HC.out.mono ?_)
    rintro e w1 ⟨rfl, rfl⟩
    go_wp2_with fail
    (with_reducible refine HD.out.mono ?_)
    rintro e w2 ⟨rfl, n, rfl⟩
    go_wp2_with fail
    (with_reducible refine (HR.out _).mono ?_)
    rintro e w3 ⟨rfl, rfl⟩
    go_wp2_with fail
    go_step3
    refine ⟨rfl, ⟨_, _, _, _, _, _, _, _, _, _, _, _, _, _, _, _, _, _, _, _, _, _, _, _, _, _, _, _, _, _, _, _, _, _, _, _, _, _, _, _, _, _, _, _, _, _, _, _, _, _, _, _, _, _, _, _, _, _, _, _, _, _, _, _, _, rfl⟩, ?_, ?_⟩
    · exact below_drewN (Below.refl _ _) n
    · exact HN.out
  · rintro a' w' ⟨⟨u0, u1, u2, u3, u4, u5, u6, u7, u8, u9, u10, u11, u12, u13, u14, u15, u16, u17, u18, u19, u20, u21, u22, u23, u24, u25, u26, u27, u28, u29, u30, u31, u32, u33, u34, u35, u36, u37, u38, u39, u40, u41, u42, u43, u44, u45, u46, u47, u48, u49, u50, u51, u52, u53, u54, u55, u56, u57, u58, u59, u60, u61, u62, u63, u64, rfl⟩, hb, hn⟩
    have HB := Lib.hid hb
    have HN := Lib.hid hn
    clear hb hn
    go_wp2_with fail
    simp only [Exit.jump]
    go_ret2
    exact ⟨by rw [HN.out]; rfl, HB.out⟩

theorem digs_length (L : List Nat) : (digs L).length = L.length := by simp [digs]

set_option maxRecDepth 100000 in
set_option maxHeartbeats 4000000 in
theorem parse_in (s : ByteArray) (q : Nat) (B : Nat) (w : World) (hs : s.size ≤ 1000) (hq : q ≤ 62) (hB : B ≤ w.heap.size) (hp : Pow B w) (he : Errs B w) (hm : MaxL B w) : Calls Tryz.prog 55 #[.string s, .int .i64 q] w (GivesParse s.data.toList q w) := by
  have hlen : s.data.toList.length = s.size := Array.length_toList
  have htl : (Lib.trimPrefix s.data.toList [45]).length ≤ s.size := by
    unfold Lib.trimPrefix
    split
    · rw [List.length_drop]; omega
    · omega
  have hcl : (Lib.cut (Lib.trimPrefix s.data.toList [45]) [46]).1.length ≤ s.size := by
    unfold Lib.cut
    split
    · have := List.length_take_le (Lib.index (Lib.trimPrefix s.data.toList [45]) [46]).toNat (Lib.trimPrefix s.data.toList [45])
      show (List.take _ _).length ≤ _
      rw [List.length_take]; omega
    · exact htl
  have hparts := fun y (h : s.data.toList = decText y q) => parts_of h
  have C1 := cutDash_any s w
  have C2 := cutDot_any (Lib.trimPrefix s.data.toList [45]) B w hm (by omega)
  generalize Lib.hasPrefix s.data.toList [45] = neg at hparts C1
  generalize Lib.trimPrefix s.data.toList [45] = D at hparts C1 C2 htl hcl
  generalize Lib.cut D [46] = c at hparts C2 hcl
  obtain ⟨W1, P1, b1⟩ := c
  dsimp only at C2 hcl
  obtain ⟨wl, hwl⟩ : ∃ wl : ByteArray, (⟨W1.toArray⟩ : ByteArray) = wl := ⟨_, rfl⟩
  obtain ⟨pt, hpt⟩ : ∃ pt : ByteArray, (⟨P1.toArray⟩ : ByteArray) = pt := ⟨_, rfl⟩
  have hwd : wl.data.toList = W1 := by rw [← hwl]
  have hpd : pt.data.toList = P1 := by rw [← hpt]
  have hws : wl.size ≤ 1000 := by
    have : wl.data.toList.length = wl.size := Array.length_toList
    rw [hwd] at this
    omega
  have hpsz : pt.size = P1.length := by
    have : pt.data.toList.length = pt.size := Array.length_toList
    rw [hpd] at this
    omega
  rw [hwl, hpt] at C2
  have HC := Lib.hid C1
  have HD := Lib.hid C2
  have HR := Lib.hid (fun W => by have C := right_any q W; rw [decide_eq_true (by omega)] at C; exact C)
  have hno : ∀ (k : ∀ y, In64 y → s.data.toList = decText y q → False), parseS s.data.toList q = (0, false) := fun k => parseS_no fun y hy e => k y hy e
  clear C1 C2 hs hlen htl hcl hwl hpt
  by_cases h62 : 62 < pt.size
  · have hd : (62 : Int) < (pt.size : Int) := by omega
    have HN := Lib.hid (hno fun y hy e => by
      obtain ⟨_, b, h2⟩ := hparts y e
      injection h2 with _ h2
      injection h2 with h2 _
      have := cd_length q (y.natAbs % p2 q)
      rw [hpsz, h2, digs_length] at h62
      omega)
    clear hparts hno h62 hwd hpd hws hpsz hp he hm hq hB
    as_aux_lemma =>
      go_enter Tryz.func55, Tryz.ntmps55
      go_wp2_with fail
      refine wp_scope_jumps 0 (fun a' w' => WrongAt s.data.toList q w a' w') (fun _ _ => 0) rfl ?_ ?_
      · go_wp2_with fail
        (with_reducible refine HC.out.mono ?_)
        rintro e w1 ⟨rfl, rfl⟩
        go_wp2_with fail
        (with_reducible refine HD.out.mono ?_)
        rintro e w2 ⟨rfl, n, rfl⟩
        have HB2 := Lib.hid (below_drewN (Below.refl w.heap.size w) n)
        go_wp2_with fail
        (with_reducible refine (HR.out _).mono ?_)
        rintro e w3 ⟨rfl, rfl⟩
        go_wp2_with fail
        go_step3
        refine ⟨rfl, ⟨_, _, _, _, _, _, _, _, _, _, _, _, _, _, _, _, _, _, _, _, _, _, _, _, _, _, _, _, _, _, _, _, _, _, _, _, _, _, _, _, _, _, _, _, _, _, _, _, _, _, _, _, _, _, _, _, _, _, _, _, _, _, _, _, _, rfl⟩, ?_, ?_⟩
        · exact HB2.out
        · exact HN.out
      · rintro a' w' ⟨⟨u0, u1, u2, u3, u4, u5, u6, u7, u8, u9, u10, u11, u12, u13, u14, u15, u16, u17, u18, u19, u20, u21, u22, u23, u24, u25, u26, u27, u28, u29, u30, u31, u32, u33, u34, u35, u36, u37, u38, u39, u40, u41, u42, u43, u44, u45, u46, u47, u48, u49, u50, u51, u52, u53, u54, u55, u56, u57, u58, u59, u60, u61, u62, u63, u64, rfl⟩, hb, hn⟩
        have HB := Lib.hid hb
        have HN := Lib.hid hn
        clear hb hn
        go_wp2_with fail
        simp only [Exit.jump]
        go_ret2
        exact ⟨by rw [HN.out]; rfl, HB.out⟩
  have hd : ¬ (62 : Int) < (pt.size : Int) := by omega
  by_cases hu : ∃ u, Lib.parseUintB 64 wl.data.toList = .ok u
  · obtain ⟨u, hu⟩ := hu
    have HU := Lib.hid (fun W (_ : Below w.heap.size w W) => parseUint_ok wl u W (by omega) hu)
    have HFR := fraction_any pt q
    obtain ⟨f, hf⟩ : ∃ f, fracS q pt.data.toList = f := ⟨_, rfl⟩
    obtain ⟨f, ok2⟩ := f
    have HF := Lib.hid (fun W (_ : Below w.heap.size w W) => by have C := fraction_any pt q W (by omega) hq; rw [hf] at C; exact C)
    clear HFR
    cases ok2
    · have HN := Lib.hid (hno fun y hy e => by
        obtain ⟨_, b, h2⟩ := hparts y e
        injection h2 with _ h2
        injection h2 with h2 _
        have := frac_good (q := q) (Nat.mod_lt y.natAbs (p2_pos q))
        rw [hpd, h2, this] at hf
        injection hf with _ hf
        cases hf)
      clear hparts hno h62 hwd hpd hws hpsz hp he hm hq hB hf hu
      as_aux_lemma =>
        go_enter Tryz.func55, Tryz.ntmps55
        go_wp2_with fail
        refine wp_scope_jumps 0 (fun a' w' => WrongAt s.data.toList q w a' w') (fun _ _ => 0) rfl ?_ ?_
        · go_wp2_with fail
          (with_reducible refine HC.out.mono ?_)
          rintro e w1 ⟨rfl, rfl⟩
          go_wp2_with fail
          (with_reducible refine HD.out.mono ?_)
          rintro e w2 ⟨rfl, n, rfl⟩
          have HB2 := Lib.hid (below_drewN (Below.refl w.heap.size w) n)
          go_wp2_with fail
          (with_reducible refine (HR.out _).mono ?_)
          rintro e w3 ⟨rfl, rfl⟩
          go_wp2_with fail
          (with_reducible refine (HU.out _ HB2.out).mono ?_)
          rintro e w4 ⟨rfl, hb4⟩
          have HB4 := Lib.hid (HB2.out.trans (hb4.mono HB2.out.size))
          clear hb4
          go_wp2_with fail
          (with_reducible refine (HF.out _ HB4.out).mono ?_)
          rintro e w5 ⟨rfl, hb5⟩
          have HB5 := Lib.hid (HB4.out.trans (hb5.mono HB4.out.size))
          clear hb5
          go_wp2_with fail
          go_step3
          refine ⟨rfl, ⟨_, _, _, _, _, _, _, _, _, _, _, _, _, _, _, _, _, _, _, _, _, _, _, _, _, _, _, _, _, _, _, _, _, _, _, _, _, _, _, _, _, _, _, _, _, _, _, _, _, _, _, _, _, _, _, _, _, _, _, _, _, _, _, _, _, rfl⟩, ?_, ?_⟩
          · exact HB5.out
          · exact HN.out
        · rintro a' w' ⟨⟨u0, u1, u2, u3, u4, u5, u6, u7, u8, u9, u10, u11, u12, u13, u14, u15, u16, u17, u18, u19, u20, u21, u22, u23, u24, u25, u26, u27, u28, u29, u30, u31, u32, u33, u34, u35, u36, u37, u38, u39, u40, u41, u42, u43, u44, u45, u46, u47, u48, u49, u50, u51, u52, u53, u54, u55, u56, u57, u58, u59, u60, u61, u62, u63, u64, rfl⟩, hb, hn⟩
          have HB := Lib.hid hb
          have HN := Lib.hid hn
          clear hb hn
          go_wp2_with fail
          simp only [Exit.jump]
          go_ret2
          exact ⟨by rw [HN.out]; rfl, HB.out⟩
    · have hval : ∀ y, In64 y → s.data.toList = decText y q → signed' neg (pushed u q f) = y := fun y hy e => by
        obtain ⟨h1, b, h2⟩ := hparts y e
        injection h2 with h3 h2
        injection h2 with h2 _
        have h4 := frac_good (q := q) (Nat.mod_lt y.natAbs (p2_pos q))
        rw [hpd, h2, h4] at hf
        injection hf with hf _
        rw [hwd, h3, parseUint_digits (Nat.lt_of_le_of_lt (Nat.div_le_self _ _) (by unfold In64 at hy; omega))] at hu
        injection hu with hu
        rw [h1, ← hu, ← hf]
        exact push_word hy hq
      have hxin := signed_in neg u q f
      obtain ⟨x, hx⟩ : ∃ x, signed' neg (pushed u q f) = x := ⟨_, rfl⟩
      rw [hx] at hval hxin
      have HT := Lib.hid (fun W (hb : Below w.heap.size w W) => decText_any x q hq hxin B W (hp.on (hb.mono hB)) (Nat.le_trans hB hb.size))
      obtain ⟨a, ha⟩ : ∃ a : Int, IntKind.u64.wrap ((u : Int) * 2 ^ q) = a := ⟨_, rfl⟩
      obtain ⟨o, ho⟩ : ∃ o : Int, bits .or .u64 a (f : Int) = o := ⟨_, rfl⟩
      obtain ⟨z, hz⟩ : ∃ z : Int, IntKind.i64.wrap o = z := ⟨_, rfl⟩
      have hxz : signed' neg z = x := by rw [← hx]; unfold pushed; rw [ha, ho, hz]
      have h64 : 0 ≤ (q : Int) ∧ (q : Int) ≤ 64 := by omega
      obtain ⟨h640, h641⟩ := h64
      cases neg
      · obtain rfl : z = x := by simpa [signed'] using hxz
        by_cases heq : s.data.toList = decText z q
        · have HN := Lib.hid (parseS_yes hq hxin heq)
          have hne : (decText z q == s.toList) = true := by rw [Go.ByteArray.toList_eq, heq]; simp
          clear hparts hno h62 hwd hpd hws hpsz hp he hm hq hB hf hu hval hxin hx hxz heq
          as_aux_lemma =>
            go_enter Tryz.func55, Tryz.ntmps55
            go_wp2_with fail
            refine wp_scope_jumps 0 (fun a' w' => WrongAt s.data.toList q w a' w') (fun _ _ => 0) rfl ?_ ?_
            · go_wp2_with fail
              (with_reducible refine HC.out.mono ?_)
              rintro e w1 ⟨rfl, rfl⟩
              go_wp2_with fail
              (with_reducible refine HD.out.mono ?_)
              rintro e w2 ⟨rfl, n, rfl⟩
              have HB2 := Lib.hid (below_drewN (Below.refl w.heap.size w) n)
              go_wp2_with fail
              (with_reducible refine (HR.out _).mono ?_)
              rintro e w3 ⟨rfl, rfl⟩
              go_wp2_with fail
              (with_reducible refine (HU.out _ HB2.out).mono ?_)
              rintro e w4 ⟨rfl, hb4⟩
              have HB4 := Lib.hid (HB2.out.trans (hb4.mono HB2.out.size))
              clear hb4
              go_wp2_with fail
              (with_reducible refine (HF.out _ HB4.out).mono ?_)
              rintro e w5 ⟨rfl, hb5⟩
              have HB5 := Lib.hid (HB4.out.trans (hb5.mono HB4.out.size))
              clear hb5
              go_wp2_with fail
              (with_reducible refine (HT.out _ HB5.out).mono ?_)
              rintro e w6 ⟨rfl, hb6⟩
              have HB6 := Lib.hid (HB5.out.trans (hb6.mono HB5.out.size))
              clear hb6
              go_wp2_with fail
              simp only [Exit.jump]
              go_ret2
              exact ⟨by rw [HN.out]; rfl, HB6.out⟩
            · rintro a' w' ⟨⟨u0, u1, u2, u3, u4, u5, u6, u7, u8, u9, u10, u11, u12, u13, u14, u15, u16, u17, u18, u19, u20, u21, u22, u23, u24, u25, u26, u27, u28, u29, u30, u31, u32, u33, u34, u35, u36, u37, u38, u39, u40, u41, u42, u43, u44, u45, u46, u47, u48, u49, u50, u51, u52, u53, u54, u55, u56, u57, u58, u59, u60, u61, u62, u63, u64, rfl⟩, hb, hn⟩
              have HB := Lib.hid hb
              have HN := Lib.hid hn
              clear hb hn
              go_wp2_with fail
              simp only [Exit.jump]
              go_ret2
              exact ⟨by rw [HN.out]; rfl, HB.out⟩
        · have HN := Lib.hid (hno fun y hy e => heq (by rw [hval y hy e]; exact e))
          have hne : (decText z q == s.toList) = false := by rw [Go.ByteArray.toList_eq]; simp [Ne.symm heq]
          clear hparts hno h62 hwd hpd hws hpsz hp he hm hq hB hf hu hval hxin hx hxz heq
          as_aux_lemma =>
            go_enter Tryz.func55, Tryz.ntmps55
            go_wp2_with fail
            refine wp_scope_jumps 0 (fun a' w' => WrongAt s.data.toList q w a' w') (fun _ _ => 0) rfl ?_ ?_
            · go_wp2_with fail
              (with_reducible refine HC.out.mono ?_)
              rintro e w1 ⟨rfl, rfl⟩
              go_wp2_with fail
              (with_reducible refine HD.out.mono ?_)
              rintro e w2 ⟨rfl, n, rfl⟩
              have HB2 := Lib.hid (below_drewN (Below.refl w.heap.size w) n)
              go_wp2_with fail
              (with_reducible refine (HR.out _).mono ?_)
              rintro e w3 ⟨rfl, rfl⟩
              go_wp2_with fail
              (with_reducible refine (HU.out _ HB2.out).mono ?_)
              rintro e w4 ⟨rfl, hb4⟩
              have HB4 := Lib.hid (HB2.out.trans (hb4.mono HB2.out.size))
              clear hb4
              go_wp2_with fail
              (with_reducible refine (HF.out _ HB4.out).mono ?_)
              rintro e w5 ⟨rfl, hb5⟩
              have HB5 := Lib.hid (HB4.out.trans (hb5.mono HB4.out.size))
              clear hb5
              go_wp2_with fail
              (with_reducible refine (HT.out _ HB5.out).mono ?_)
              rintro e w6 ⟨rfl, hb6⟩
              have HB6 := Lib.hid (HB5.out.trans (hb6.mono HB5.out.size))
              clear hb6
              go_wp2_with fail
              go_step3
              go_wp2_with fail
              simp only [Exit.jump]
              go_ret2
              exact ⟨by rw [HN.out]; rfl, HB6.out⟩
            · rintro a' w' ⟨⟨u0, u1, u2, u3, u4, u5, u6, u7, u8, u9, u10, u11, u12, u13, u14, u15, u16, u17, u18, u19, u20, u21, u22, u23, u24, u25, u26, u27, u28, u29, u30, u31, u32, u33, u34, u35, u36, u37, u38, u39, u40, u41, u42, u43, u44, u45, u46, u47, u48, u49, u50, u51, u52, u53, u54, u55, u56, u57, u58, u59, u60, u61, u62, u63, u64, rfl⟩, hb, hn⟩
              have HB := Lib.hid hb
              have HN := Lib.hid hn
              clear hb hn
              go_wp2_with fail
              simp only [Exit.jump]
              go_ret2
              exact ⟨by rw [HN.out]; rfl, HB.out⟩
      · have hsg : wrap64 (-z) = x := by simpa [signed'] using hxz
        by_cases heq : s.data.toList = decText x q
        · have HN := Lib.hid (parseS_yes hq hxin heq)
          have hne : (decText x q == s.toList) = true := by rw [Go.ByteArray.toList_eq, heq]; simp
          clear hparts hno h62 hwd hpd hws hpsz hp he hm hq hB hf hu hval hxin hx hxz heq
          as_aux_lemma =>
            go_enter Tryz.func55, Tryz.ntmps55
            go_wp2_with fail
            refine wp_scope_jumps 0 (fun a' w' => WrongAt s.data.toList q w a' w') (fun _ _ => 0) rfl ?_ ?_
            · go_wp2_with fail
              (with_reducible refine HC.out.mono ?_)
              rintro e w1 ⟨rfl, rfl⟩
              go_wp2_with fail
              (with_reducible refine HD.out.mono ?_)
              rintro e w2 ⟨rfl, n, rfl⟩
              have HB2 := Lib.hid (below_drewN (Below.refl w.heap.size w) n)
              go_wp2_with fail
              (with_reducible refine (HR.out _).mono ?_)
              rintro e w3 ⟨rfl, rfl⟩
              go_wp2_with fail
              (with_reducible refine (HU.out _ HB2.out).mono ?_)
              rintro e w4 ⟨rfl, hb4⟩
              have HB4 := Lib.hid (HB2.out.trans (hb4.mono HB2.out.size))
              clear hb4
              go_wp2_with fail
              (with_reducible refine (HF.out _ HB4.out).mono ?_)
              rintro e w5 ⟨rfl, hb5⟩
              have HB5 := Lib.hid (HB4.out.trans (hb5.mono HB4.out.size))
              clear hb5
              go_wp2_with fail
              (with_reducible refine (HT.out _ HB5.out).mono ?_)
              rintro e w6 ⟨rfl, hb6⟩
              have HB6 := Lib.hid (HB5.out.trans (hb6.mono HB5.out.size))
              clear hb6
              go_wp2_with fail
              simp only [Exit.jump]
              go_ret2
              exact ⟨by rw [HN.out]; rfl, HB6.out⟩
            · rintro a' w' ⟨⟨u0, u1, u2, u3, u4, u5, u6, u7, u8, u9, u10, u11, u12, u13, u14, u15, u16, u17, u18, u19, u20, u21, u22, u23, u24, u25, u26, u27, u28, u29, u30, u31, u32, u33, u34, u35, u36, u37, u38, u39, u40, u41, u42, u43, u44, u45, u46, u47, u48, u49, u50, u51, u52, u53, u54, u55, u56, u57, u58, u59, u60, u61, u62, u63, u64, rfl⟩, hb, hn⟩
              have HB := Lib.hid hb
              have HN := Lib.hid hn
              clear hb hn
              go_wp2_with fail
              simp only [Exit.jump]
              go_ret2
              exact ⟨by rw [HN.out]; rfl, HB.out⟩
        · have HN := Lib.hid (hno fun y hy e => heq (by rw [hval y hy e]; exact e))
          have hne : (decText x q == s.toList) = false := by rw [Go.ByteArray.toList_eq]; simp [Ne.symm heq]
          clear hparts hno h62 hwd hpd hws hpsz hp he hm hq hB hf hu hval hxin hx hxz heq
          as_aux_lemma =>
            go_enter Tryz.func55, Tryz.ntmps55
            go_wp2_with fail
            refine wp_scope_jumps 0 (fun a' w' => WrongAt s.data.toList q w a' w') (fun _ _ => 0) rfl ?_ ?_
            · go_wp2_with fail
              (with_reducible refine HC.out.mono ?_)
              rintro e w1 ⟨rfl, rfl⟩
              go_wp2_with fail
              (with_reducible refine HD.out.mono ?_)
              rintro e w2 ⟨rfl, n, rfl⟩
              have HB2 := Lib.hid (below_drewN (Below.refl w.heap.size w) n)
              go_wp2_with fail
              (with_reducible refine (HR.out _).mono ?_)
              rintro e w3 ⟨rfl, rfl⟩
              go_wp2_with fail
              (with_reducible refine (HU.out _ HB2.out).mono ?_)
              rintro e w4 ⟨rfl, hb4⟩
              have HB4 := Lib.hid (HB2.out.trans (hb4.mono HB2.out.size))
              clear hb4
              go_wp2_with fail
              (with_reducible refine (HF.out _ HB4.out).mono ?_)
              rintro e w5 ⟨rfl, hb5⟩
              have HB5 := Lib.hid (HB4.out.trans (hb5.mono HB4.out.size))
              clear hb5
              go_wp2_with fail
              (with_reducible refine (HT.out _ HB5.out).mono ?_)
              rintro e w6 ⟨rfl, hb6⟩
              have HB6 := Lib.hid (HB5.out.trans (hb6.mono HB5.out.size))
              clear hb6
              go_wp2_with fail
              go_step3
              go_wp2_with fail
              simp only [Exit.jump]
              go_ret2
              exact ⟨by rw [HN.out]; rfl, HB6.out⟩
            · rintro a' w' ⟨⟨u0, u1, u2, u3, u4, u5, u6, u7, u8, u9, u10, u11, u12, u13, u14, u15, u16, u17, u18, u19, u20, u21, u22, u23, u24, u25, u26, u27, u28, u29, u30, u31, u32, u33, u34, u35, u36, u37, u38, u39, u40, u41, u42, u43, u44, u45, u46, u47, u48, u49, u50, u51, u52, u53, u54, u55, u56, u57, u58, u59, u60, u61, u62, u63, u64, rfl⟩, hb, hn⟩
              have HB := Lib.hid hb
              have HN := Lib.hid hn
              clear hb hn
              go_wp2_with fail
              simp only [Exit.jump]
              go_ret2
              exact ⟨by rw [HN.out]; rfl, HB.out⟩
  · have hnu : ∀ u, Lib.parseUintB 64 wl.data.toList ≠ .ok u := fun u h => hu ⟨u, h⟩
    have HU := Lib.hid (fun W (hb : Below w.heap.size w W) => parseUint_err wl B W (by omega) (he.on (hb.mono hB)) hnu)
    have HN := Lib.hid (hno fun y hy e => by
      obtain ⟨_, b, h2⟩ := hparts y e
      injection h2 with h2 _
      refine hnu (y.natAbs / p2 q) ?_
      rw [hwd, h2]
      exact parseUint_digits (Nat.lt_of_le_of_lt (Nat.div_le_self _ _) (by unfold In64 at hy; omega)))
    clear hparts hno h62 hwd hpd hws hpsz hp he hm hq hB hu hnu
    as_aux_lemma =>
      go_enter Tryz.func55, Tryz.ntmps55
      go_wp2_with fail
      refine wp_scope_jumps 0 (fun a' w' => WrongAt s.data.toList q w a' w') (fun _ _ => 0) rfl ?_ ?_
      · go_wp2_with fail
        (with_reducible refine HC.out.mono ?_)
        rintro e w1 ⟨rfl, rfl⟩
        go_wp2_with fail
        (with_reducible refine HD.out.mono ?_)
        rintro e w2 ⟨rfl, n, rfl⟩
        have HB2 := Lib.hid (below_drewN (Below.refl w.heap.size w) n)
        go_wp2_with fail
        (with_reducible refine (HR.out _).mono ?_)
        rintro e w3 ⟨rfl, rfl⟩
        go_wp2_with fail
        (with_reducible refine (HU.out _ HB2.out).mono ?_)
        rintro e w4 ⟨x4, t4, p4, rfl, hb4⟩
        have HB4 := Lib.hid (HB2.out.trans (hb4.mono HB2.out.size))
        clear hb4
        go_wp2_with fail
        go_step3
        refine ⟨rfl, ⟨_, _, _, _, _, _, _, _, _, _, _, _, _, _, _, _, _, _, _, _, _, _, _, _, _, _, _, _, _, _, _, _, _, _, _, _, _, _, _, _, _, _, _, _, _, _, _, _, _, _, _, _, _, _, _, _, _, _, _, _, _, _, _, _, _, rfl⟩, ?_, ?_⟩
        · exact HB4.out
        · exact HN.out
      · rintro a' w' ⟨⟨u0, u1, u2, u3, u4, u5, u6, u7, u8, u9, u10, u11, u12, u13, u14, u15, u16, u17, u18, u19, u20, u21, u22, u23, u24, u25, u26, u27, u28, u29, u30, u31, u32, u33, u34, u35, u36, u37, u38, u39, u40, u41, u42, u43, u44, u45, u46, u47, u48, u49, u50, u51, u52, u53, u54, u55, u56, u57, u58, u59, u60, u61, u62, u63, u64, rfl⟩, hb, hn⟩
        have HB := Lib.hid hb
        have HN := Lib.hid hn
        clear hb hn
        go_wp2_with fail
        simp only [Exit.jump]
        go_ret2
        exact ⟨by rw [HN.out]; rfl, HB.out⟩

theorem parse_any (s : ByteArray) (q : Int) (B : Nat) (w : World) (hs : s.size ≤ 1000) (hB : B ≤ w.heap.size) (hp : Pow B w) (he : Errs B w) (hm : MaxL B w) : Calls Tryz.prog 55 #[.string s, .int .i64 q] w (GivesParse s.data.toList q w) := by
  by_cases hq : 0 ≤ q ∧ q ≤ 62
  · obtain ⟨n, rfl⟩ : ∃ n : Nat, q = (n : Int) := ⟨q.toNat, by omega⟩
    exact parse_in s n B w hs (by omega) hB hp he hm
  · exact parse_out s q B w (by omega) hm hq

end Go.Proofs.YtiokdfkddcokoaaGreatDoor
