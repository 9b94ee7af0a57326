/- Walks: the reference's Parse. Conditions: none. -/
import Derived.Test.YtiokdfkddcokoaaGreatDoorDeciParse
import Derived.Test.YtiokdfkddcokoaaGreatDoorRefDbl
import Derived.Test.YtiokdfkddcokoaaGreatDoorDeciParse
import Derived.Test.YtiokdfkddcokoaaGreatDoorRefText
import Derived.Test.YtiokdfkddcokoaaGreatDoorDecLen
import Derived.Deep.CutBlock
namespace Go.Proofs.YtiokdfkddcokoaaGreatDoor
open Go.RowKit

def BoolAt (b : Bool) (w : World) (s : Value) (wx : World) : Prop := s = .bool b ∧ wx = w
def StrAt (d : ByteArray) (w : World) (s : Value) (wx : World) : Prop := s = .string d ∧ wx = w

/-- Where the first point is, or the end. -/
def DotAt (d : ByteArray) (w : World) (s7 : Value) (wx : World) : Prop := (∃ k : Nat, k ≤ d.size ∧ s7 = .int .i64 k ∧ (∀ c ∈ d.data.toList.take k, c ≠ 46) ∧ (k = d.size ∨ ∃ h : k < d.size, d[k] = 46)) ∧ wx = w

theorem trim_of {l : List UInt8} {y : Int} {q : Nat} (h : l = decText y q) : Lib.trimPrefix l [45] = Lib.decDigits (y.natAbs / p2 q) ++ fracText q (y.natAbs % p2 q) := by
  have hp := (parts_of h).1
  unfold Lib.trimPrefix
  rw [hp]
  subst h
  unfold decText
  by_cases hy : y < 0
  · simp [hy]
  · simp [hy]

theorem digs_of {l : List UInt8} (h : digsB l = true) : l = digs (l.map fun c => c.toNat - 48) ∧ ∀ x ∈ (l.map fun c => c.toNat - 48), x ≤ 9 := by
  have hd : ∀ c ∈ l, 48 ≤ c.toNat ∧ c.toNat ≤ 57 := fun c hc => by simpa [digitB] using List.all_eq_true.1 h c hc
  constructor
  · unfold digs
    rw [List.map_map]
    conv => lhs; rw [← List.map_id l]
    refine List.map_congr_left fun c hc => ?_
    have := hd c hc
    simp only [Function.comp, id]
    apply UInt8.toNat_inj.1
    rw [digit_byte (d := c.toNat - 48) (by omega)]
    omega
  · intro x hx
    obtain ⟨c, hc, rfl⟩ := List.mem_map.1 hx
    have := hd c hc
    omega

/-- The first point of a number's text. -/
theorem first_dot {D : List UInt8} {k u q r : Nat} (hr : r < p2 q) (hD : D = Lib.decDigits u ++ fracText q r) (hk : k ≤ D.length) (hno : ∀ c ∈ D.take k, c ≠ 46) (hend : k = D.length ∨ D[k]? = some 46) :
    D.take k = Lib.decDigits u ∧ (if k < D.length then D.drop (k + 1) else []) = digs (cd q r) ∧ (k < D.length → cd q r ≠ []) := by
  have hdig : ∀ c ∈ Lib.decDigits u, c ≠ 46 := fun c hc e => by have := (dec_all u c hc).1; rw [e] at this; exact absurd this (by decide)
  have hkm : k = (Lib.decDigits u).length := by
    rcases Nat.lt_trichotomy k (Lib.decDigits u).length with h | h | h
    · exfalso
      rcases hend with h1 | h1
      · rw [h1, hD, List.length_append] at h; omega
      · rw [hD, List.getElem?_append_left h] at h1
        exact hdig 46 (List.mem_of_getElem? h1) rfl
    · exact h
    · exfalso
      have hlen : D.length = (Lib.decDigits u).length + (fracText q r).length := by rw [hD, List.length_append]
      have hf : (fracText q r).head? = some 46 := by
        unfold fracText at hlen ⊢
        split at hlen
        · simp at hlen; omega
        · rename_i h0; rw [if_neg h0]; rfl
      have h2 : D[(Lib.decDigits u).length]? = some 46 := by
        rw [hD, List.getElem?_append_right (Nat.le_refl _), Nat.sub_self, ← List.head?_eq_getElem?]
        exact hf
      exact hno 46 (List.mem_of_getElem? (i := (Lib.decDigits u).length) (by rw [List.getElem?_take, if_pos h]; exact h2)) rfl
  subst hkm
  refine ⟨by rw [hD, List.take_left], ?_, ?_⟩
  · rw [hD, List.length_append]
    unfold fracText
    by_cases h : r = 0
    · subst h; rw [if_pos rfl, cd_nil]; simp [digs]
    · rw [if_neg h]
      simp [digs]
  · intro hlt e
    rw [hD, List.length_append] at hlt
    unfold fracText at hlt
    by_cases h : r = 0
    · rw [if_pos h] at hlt; simp at hlt
    · rw [cd_step q r hr h] at e
      cases e

theorem mod_step (N c P R : Nat) : ((2 * N % 18446744073709551616 + c) % 18446744073709551616 * P + R) % 18446744073709551616 = (N * (2 * P) + (c * P + R)) % 18446744073709551616 := by
  have h1 : ((2 * N % 18446744073709551616 + c) % 18446744073709551616) = (2 * N + c) % 18446744073709551616 := by omega
  have h2 : ((2 * N + c) % 18446744073709551616 * P + R) % 18446744073709551616 = ((2 * N + c) * P + R) % 18446744073709551616 := by
    rw [Nat.add_mod, Nat.mul_mod, Nat.mod_mod, ← Nat.mul_mod, ← Nat.add_mod]
  rw [h1, h2]
  congr 1
  rw [Nat.add_mul, Nat.mul_comm 2 N, Nat.mul_assoc, Nat.add_assoc]

theorem prefix_cases (s : ByteArray) : (Lib.hasPrefix s.data.toList [45] = true ∧ ∃ h : 0 < s.size, s[0] = 45) ∨ (Lib.hasPrefix s.data.toList [45] = false ∧ (s.size = 0 ∨ ∃ h : 0 < s.size, s[0] ≠ 45)) := by
  by_cases h0 : 0 < s.size
  · have hd := drop_at s 0 h0
    rw [List.drop_zero] at hd
    by_cases h45 : s[0] = 45
    · left
      refine ⟨?_, h0, h45⟩
      rw [hd, h45]; simp [Lib.hasPrefix, List.isPrefixOf]
    · right
      refine ⟨?_, .inr ⟨h0, h45⟩⟩
      rw [hd]; simp [Lib.hasPrefix, List.isPrefixOf, Ne.symm h45]
  · right
    have : s.data.toList = [] := List.eq_nil_of_length_eq_zero (by rw [Array.length_toList]; exact Nat.eq_zero_of_not_pos h0)
    exact ⟨by rw [this]; rfl, .inl (by omega)⟩

set_option maxRecDepth 100000 in
set_option maxHeartbeats 4000000 in
theorem refParse_in (s : ByteArray) (q : Nat) (w : World) (hs : s.size ≤ 100) (hq : q ≤ 62) : Calls Tryz.prog 24 #[.string s, .int .i64 q] w (GivesParse s.data.toList q w) := by
  have hlen : s.data.toList.length = s.size := Array.length_toList
  have hparts := fun y (h : s.data.toList = decText y q) => parts_of h
  have hcs := prefix_cases s
  obtain ⟨neg, hneg⟩ : ∃ neg, Lib.hasPrefix s.data.toList [45] = neg := ⟨_, rfl⟩
  obtain ⟨d, hde⟩ : ∃ d : ByteArray, (if neg then s.extract 1 s.size else s) = d := ⟨_, rfl⟩
  have h100 : ¬ (100 : Int) < (s.size : Int) := by omega
  obtain ⟨h1, h2⟩ : 0 ≤ (q : Int) ∧ (q : Int) ≤ 62 := by omega
  rw [hneg] at hcs
  have HCS := Lib.hid hcs
  have HDE := Lib.hid hde
  have HP := Lib.hid (And.intro hparts (And.intro hneg (And.intro hlen (And.intro hs hq))))
  clear hlen hparts hcs hneg hde hs hq
  go_enter Tryz.func24, Tryz.ntmps24
  go_upto_region 4 with fail
  go_cut [33] (fun s33 wx => BoolAt neg w s33 wx)
  case first =>
    rcases HCS.out with ⟨h, h0, h45⟩ | ⟨h, h0 | ⟨h0, h45⟩⟩
    · subst h
      have hp : (0 : Int) < (s.size : Int) := by omega
      have hb : ((s[0].toNat : Int) == 45) = true := by rw [h45]; decide
      clear h45
      go_wp2_with fail
      go_meet
      exact ⟨rfl, rfl⟩
    · subst h
      have hp : ¬ (0 : Int) < (s.size : Int) := by omega
      go_wp2_with fail
      go_meet
      exact ⟨rfl, rfl⟩
    · subst h
      have hp : (0 : Int) < (s.size : Int) := by omega
      have hb : ((s[0].toNat : Int) == 45) = false := by
        rw [beq_eq_false_iff_ne]
        intro h
        have h2 : s[0].toNat = 45 := by omega
        exact h45 (UInt8.toNat_inj.1 h2)
      clear h45
      go_wp2_with fail
      go_meet
      exact ⟨rfl, rfl⟩
  case rest =>
    obtain ⟨rfl, rfl⟩ := hcut
    go_upto_if 33 with fail
    go_cut [6] (fun s6 wx => StrAt d wc s6 wx)
    case first =>
      cases neg
      · go_wp2_with fail
        go_meet
        exact ⟨by rw [← HDE.out]; rfl, rfl⟩
      · have hd : s.extract 1 s.size = d := HDE.out
        have hp : (1 : Int) ≤ (s.size : Int) := by
          rcases HCS.out with ⟨_, h0, _⟩ | ⟨h, _⟩
          · omega
          · cases h
        go_wp2_with fail
        go_meet
        exact ⟨rfl, rfl⟩
    case rest =>
      obtain ⟨rfl, rfl⟩ := hcut
      have hD : d.data.toList = Lib.trimPrefix s.data.toList [45] := by
        have h2 := HDE.out
        rcases HCS.out with ⟨rfl, h0, h45⟩ | ⟨rfl, h0⟩
        · rw [← h2]
          unfold Lib.trimPrefix
          rw [HP.out.2.1, if_pos rfl, if_pos rfl]
          exact Lib.extract_to_end s 1
        · rw [← h2]
          unfold Lib.trimPrefix
          rw [HP.out.2.1]
          rfl
      have hdl : d.data.toList.length = d.size := Array.length_toList
      have hds : d.size ≤ 100 := by
        have h3 := HP.out.2.2.1
        have h4 := HP.out.2.2.2.1
        have : (Lib.trimPrefix s.data.toList [45]).length ≤ s.data.toList.length := by
          unfold Lib.trimPrefix
          split
          · rw [List.length_drop]; omega
          · omega
        rw [← hD] at this
        omega
      have HD := Lib.hid (And.intro hD (And.intro hdl hds))
      have hds' : (d.size : Int) ≤ 100 := by omega
      clear hD hdl hds
      go_upto_block 0 with fail
      go_cut [7] (fun s7 wx => DotAt d wc s7 wx)
      case first =>
        go_wp2_with fail
        go_loop [7] (fun i => ∃ k : Nat, k ≤ d.size ∧ i = .int .i64 k ∧ ∀ c ∈ d.data.toList.take k, c ≠ 46) (fun i => d.size - (intOf i).toNat)
        case atStart => exact ⟨0, Nat.zero_le _, rfl, fun c hc => by simp at hc⟩
        case round =>
          obtain ⟨k, hk, rfl, hno⟩ := hrel
          have HNO := Lib.hid hno
          clear hno
          by_cases hlt : k < d.size
          · by_cases h46 : d[k] = 46
            · have hb : ((d[k].toNat : Int) != 46) = false := by rw [h46]; decide
              have HK := Lib.hid (drop_at d k hlt)
              have H46 := Lib.hid h46
              clear h46
              go_wp2_with fail
              go_meet
              exact ⟨⟨k, by omega, rfl, HNO.out, .inr ⟨hlt, H46.out⟩⟩, rfl⟩
            · have hb : ((d[k].toNat : Int) != 46) = true := by
                rw [bne_iff_ne]
                intro h
                have h2 : d[k].toNat = 46 := by omega
                exact h46 (UInt8.toNat_inj.1 h2)
              have HN2 := Lib.hid (show ∀ c ∈ d.data.toList.take (k + 1), c ≠ 46 by
                rw [take_succ_str d k hlt]
                intro c hc
                rcases List.mem_append.1 hc with hc | hc
                · exact HNO.out c hc
                · rw [List.mem_singleton] at hc
                  rw [hc]
                  exact h46)
              clear h46
              go_wp2_with fail
              go_round
              case rel => exact ⟨k + 1, by omega, by go_num, HN2.out⟩
              case measure => simp [intOf]; omega
          · go_wp2_with fail
            go_meet
            exact ⟨⟨k, by omega, rfl, HNO.out, .inl (by omega)⟩, rfl⟩
      case rest =>
        obtain ⟨⟨k, hk, rfl, hno, hend⟩, rfl⟩ := hcut
        obtain ⟨hd, hdd⟩ : ∃ hd : ByteArray, d.extract 0 k = hd := ⟨_, rfl⟩
        obtain ⟨pt, hpt⟩ : ∃ pt : ByteArray, (if k < d.size then d.extract (k + 1) d.size else ⟨#[]⟩) = pt := ⟨_, rfl⟩
        have hhl : hd.data.toList = d.data.toList.take k := by
          rw [← hdd, Lib.extract_data]; simp
        have hpl : pt.data.toList = if k < d.size then d.data.toList.drop (k + 1) else [] := by
          rw [← hpt]
          split
          · exact Lib.extract_to_end d (k + 1)
          · rfl
        have hhs : hd.size ≤ 100 := by
          have h3 : hd.data.toList.length = hd.size := Array.length_toList
          rw [hhl, List.length_take] at h3
          have := HD.out.2
          omega
        have hps : pt.size ≤ 100 := by
          have h3 : pt.data.toList.length = pt.size := Array.length_toList
          rw [hpl] at h3
          have := HD.out.2
          split at h3
          · rw [List.length_drop] at h3; omega
          · simp at h3; omega
        obtain ⟨p, hpv⟩ : ∃ p, valF 0 hd.data.toList = p := ⟨_, rfl⟩
        obtain ⟨n0, ok⟩ := p
        obtain ⟨dg, hdg⟩ : ∃ dg, digsOk hd.data.toList = dg := ⟨_, rfl⟩
        obtain ⟨dp, hdp⟩ : ∃ dp, digsOk pt.data.toList = dp := ⟨_, rfl⟩
        have HV := Lib.hid (fun W => by have C := value_any hd W (by omega); rw [hpv] at C; exact C)
        have HGH := Lib.hid (fun W => by have C := digits_any hd W (by omega); rw [hdg] at C; exact C)
        have HGP := Lib.hid (fun W => by have C := digits_any pt W (by omega); rw [hdp] at C; exact C)
        have HVV := Lib.hid (And.intro hpv (And.intro hdg hdp))
        clear hpv hdg hdp
        have HPT := Lib.hid hpt
        have HE := Lib.hid (And.intro hno (And.intro hend (And.intro hhl (And.intro hpl (And.intro hhs hps)))))
        have hk' : (k : Int) ≤ (d.size : Int) := by omega
        clear hno hend hhl hpl hhs hps hpt
        go_upto_if 58 with (first
          | (go_at_call 39; (with_reducible refine (HV.out _).mono ?_); rintro e w1 ⟨rfl, rfl⟩))
        go_cut [10] (fun s10 wx => StrAt pt wc s10 wx)
        case first =>
          by_cases hlt : k < d.size
          · have hl' : (k : Int) < (d.size : Int) := by omega
            have hk1 : IntKind.i64.wrap ((k : Int) + 1) = ((k + 1 : Nat) : Int) := by rw [IntWalk.i64_in _ (by omega)]; omega
            have hp : d.extract (k + 1) d.size = pt := by have := HPT.out; rwa [if_pos hlt] at this
            go_wp2_with fail
            go_meet
            exact ⟨rfl, rfl⟩
          · have hp : (⟨#[]⟩ : ByteArray) = pt := by have := HPT.out; rwa [if_neg hlt] at this
            have HP0 := Lib.hid hp
            clear hp
            go_wp2_with fail
            go_meet
            exact ⟨by rw [HP0.out], rfl⟩
        case rest =>
          obtain ⟨rfl, rfl⟩ := hcut
          have hbad : ¬ (dg = true ∧ ok = true ∧ (k < d.size → dp = true)) → parseS s.data.toList q = (0, false) := fun hb => parseS_no fun y hy e => by
            have hD := HD.out.1
            rw [trim_of e] at hD
            obtain ⟨_, hend, hhl, hpl, _, _⟩ := HE.out
            have hr := Nat.mod_lt y.natAbs (p2_pos q)
            have hkl : k ≤ d.data.toList.length := by rw [HD.out.2.1]; exact hk
            obtain ⟨f1, f2, f3⟩ := first_dot hr hD hkl HE.out.1 (by
              rcases hend with h | ⟨h, h46⟩
              · exact .inl (by rw [HD.out.2.1]; exact h)
              · right
                rw [List.getElem?_eq_getElem (by rw [HD.out.2.1]; exact h)]
                exact congrArg some h46)
            rw [HD.out.2.1, ← hpl] at f2
            rw [← hhl] at f1
            have hu : y.natAbs / p2 q ≤ 9223372036854775808 := Nat.le_trans (Nat.div_le_self _ _) (by unfold In64 at hy; omega)
            obtain ⟨v1, v2, v3⟩ := HVV.out
            rw [f1, valF_digits hu] at v1
            rw [f1, digs_dec] at v2
            refine hb ⟨v2.symm, by injection v1 with _ h; exact h.symm, fun hlt => ?_⟩
            rw [← v3, f2]
            unfold digsOk
            rw [(digs_good _ (cd_digits q _ hr)).1, digs_length]
            have := f3 (by rw [HD.out.2.1]; exact hlt)
            simp
            exact List.length_pos_iff.2 this
          cases dg
          · have HN := Lib.hid (hbad (fun h => Bool.noConfusion h.1))
            clear hbad
            as_aux_lemma =>
              go_wp2_with (first
                | (go_at_call 40; (with_reducible refine (HGH.out _).mono ?_); rintro e w1 ⟨rfl, rfl⟩)
                | (go_at_call 40; (with_reducible refine (HGP.out _).mono ?_); rintro e w1 ⟨rfl, rfl⟩))
              go_ret2
              exact ⟨by rw [HN.out]; rfl, Below.refl _ _⟩
          cases ok
          · have HN := Lib.hid (hbad (fun h => Bool.noConfusion h.2.1))
            clear hbad
            as_aux_lemma =>
              go_wp2_with (first
                | (go_at_call 40; (with_reducible refine (HGH.out _).mono ?_); rintro e w1 ⟨rfl, rfl⟩)
                | (go_at_call 40; (with_reducible refine (HGP.out _).mono ?_); rintro e w1 ⟨rfl, rfl⟩))
              go_ret2
              exact ⟨by rw [HN.out]; rfl, Below.refl _ _⟩
          by_cases hbp : k < d.size ∧ dp = false
          · obtain ⟨hlt, rfl⟩ := hbp
            have hl' : (k : Int) < (d.size : Int) := by omega
            have HN := Lib.hid (hbad (fun h => Bool.noConfusion (h.2.2 hlt)))
            clear hbad
            as_aux_lemma =>
              go_wp2_with (first
                | (go_at_call 40; (with_reducible refine (HGH.out _).mono ?_); rintro e w1 ⟨rfl, rfl⟩)
                | (go_at_call 40; (with_reducible refine (HGP.out _).mono ?_); rintro e w1 ⟨rfl, rfl⟩))
              go_ret2
              exact ⟨by rw [HN.out]; rfl, Below.refl _ _⟩
          have HBP := Lib.hid hbp
          clear hbp hbad
          go_upto_region 13 with fail
          go_cut [82] (fun s82 wx => BoolAt false wc s82 wx)
          case first =>
            by_cases hlt : k < d.size
            · have hl' : (k : Int) < (d.size : Int) := by omega
              have hdp : dp = true := by
                cases dp
                · exact absurd ⟨hlt, rfl⟩ HBP.out
                · rfl
              subst hdp
              go_wp2_with (first
                | (go_at_call 40; (with_reducible refine (HGH.out _).mono ?_); rintro e w1 ⟨rfl, rfl⟩)
                | (go_at_call 40; (with_reducible refine (HGP.out _).mono ?_); rintro e w1 ⟨rfl, rfl⟩))
              go_meet
              exact ⟨rfl, rfl⟩
            · have hl' : ¬ (k : Int) < (d.size : Int) := by omega
              go_wp2_with (first
                | (go_at_call 40; (with_reducible refine (HGH.out _).mono ?_); rintro e w1 ⟨rfl, rfl⟩))
              go_meet
              exact ⟨rfl, rfl⟩
          case rest =>
            obtain ⟨rfl, rfl⟩ := hcut
            have hLex : ∃ L, pt.data.toList = digs L ∧ ∀ x ∈ L, x ≤ 9 := by
              by_cases hlt : k < d.size
              · have hdp : dp = true := by
                  cases dp
                  · exact absurd ⟨hlt, rfl⟩ HBP.out
                  · rfl
                have h3 := HVV.out.2.2
                rw [hdp] at h3
                exact ⟨_, digs_of (by unfold digsOk at h3; simp at h3; exact h3.1)⟩
              · have h3 := HE.out.2.2.2.1
                rw [if_neg hlt] at h3
                exact ⟨[], by rw [h3]; rfl, fun x hx => by simp at hx⟩
            obtain ⟨L0, hL0, hL9⟩ := hLex
            have hL0l : L0.length ≤ 100 := by
              have h3 : pt.data.toList.length = pt.size := Array.length_toList
              rw [hL0, digs_length] at h3
              have := HE.out.2.2.2.2.2
              omega
            have hptv : Value.string pt = strD L0 := by
              congr 1
              apply ByteArray.ext
              exact Array.toList_inj.1 (by rw [hL0])
            rw [hptv]
            have hn0 : n0 < 18446744073709551616 := by
              have h3 := valF_le hd.data.toList 0
              rw [HVV.out.1] at h3
              have := h3 rfl
              dsimp only at this
              omega
            have HL := Lib.hid (And.intro hL0 (And.intro hL9 (And.intro hL0l hn0)))
            clear hL0 hL9 hL0l hptv hn0
            obtain ⟨tot, htot⟩ : ∃ tot, (n0 * p2 q + bitsL q L0) % 18446744073709551616 = tot := ⟨_, rfl⟩
            have HTOT := Lib.hid htot
            clear htot
            go_wp2_with fail
            go_loop [8, 10, 11] (fun nv pv iv => ∃ (j N : Nat) (L : List Nat), j ≤ q ∧ iv = .int .i64 j ∧ nv = .int .u64 (N : Int) ∧ pv = strD L ∧ N < 18446744073709551616 ∧ (∀ x ∈ L, x ≤ 9) ∧ L.length ≤ 100 ∧ (N * p2 (q - j) + bitsL (q - j) L) % 18446744073709551616 = tot) (fun _ _ iv => q - (intOf iv).toNat)
            case atStart => exact ⟨0, n0, L0, Nat.zero_le _, rfl, rfl, rfl, HL.out.2.2.2, HL.out.2.1, HL.out.2.2.1, HTOT.out⟩
            case round =>
              obtain ⟨j, N, L, hj, rfl, rfl, rfl, hN, hL9, hLl, hv⟩ := hrel
              by_cases hlt : j < q
              · obtain ⟨c0, L2, hdb⟩ : ∃ c0 L2, dblL L = (c0, L2) := ⟨_, _, rfl⟩
                have hbd := dbl_bd L hL9
                have HDB := doubled_any ⟨(digs L).toArray⟩ L wc rfl hL9 (by show (digs L).toArray.size ≤ 1000; simp [digs]; omega)
                rw [hdb] at hbd HDB
                dsimp only at hbd HDB
                have HDBL := Lib.hid HDB
                obtain ⟨N2, hN2⟩ : ∃ N2, 2 * N % 18446744073709551616 = N2 := ⟨_, rfl⟩
                obtain ⟨N3, hN3⟩ : ∃ N3, (N2 + c0) % 18446744073709551616 = N3 := ⟨_, rfl⟩
                have k1 : IntKind.u64.wrap (2 * (N : Int)) = (N2 : Int) := by rw [IntKind.wrap_u64]; omega
                have k2 : IntKind.u64.wrap ((N2 : Int) + (c0 : Int)) = (N3 : Int) := by rw [IntKind.wrap_u64]; omega
                have HV2 := Lib.hid (show (N3 * p2 (q - (j + 1)) + bitsL (q - (j + 1)) L2) % 18446744073709551616 = tot by
                  rw [← hv, ← hN3, ← hN2, show q - j = q - (j + 1) + 1 by omega, bitsL, hdb, p2_succ]
                  exact mod_step _ _ _ _)
                have HR := Lib.hid (And.intro (show N3 < 18446744073709551616 by omega) (And.intro hbd.2.2 (show L2.length ≤ 100 by rw [hbd.2.1]; exact hLl)))
                have hj62 : (j : Int) ≤ 62 := by omega
                clear hN hL9 hLl hv hdb hbd HDB hN2 hN3
                go_wp2_with fail
                (with_reducible refine HDBL.out.mono ?_)
                rintro e w1 ⟨rfl, rfl⟩
                go_wp2_with fail
                go_round
                case rel => exact ⟨j + 1, N3, L2, by omega, by go_num, rfl, rfl, HR.out.1, HR.out.2.1, HR.out.2.2, HV2.out⟩
                case measure => simp [intOf]; omega
              · obtain rfl : j = q := by omega
                have hNt : N = tot := by
                  rw [Nat.sub_self] at hv
                  simp [bitsL, p2] at hv
                  omega
                subst hNt
                have hval : ∀ y, In64 y → s.data.toList = decText y j → (neg = decide (y < 0)) ∧ (N : Int) = y.natAbs := fun y hy e => by
                  have hD := HD.out.1
                  rw [trim_of e] at hD
                  obtain ⟨_, hend, hhl, hpl, _, _⟩ := HE.out
                  have hr := Nat.mod_lt y.natAbs (p2_pos j)
                  have hkl : k ≤ d.data.toList.length := by rw [HD.out.2.1]; exact hk
                  obtain ⟨f1, f2, f3⟩ := first_dot hr hD hkl HE.out.1 (by
                    rcases hend with h | ⟨h, h46⟩
                    · exact .inl (by rw [HD.out.2.1]; exact h)
                    · right
                      rw [List.getElem?_eq_getElem (by rw [HD.out.2.1]; exact h)]
                      exact congrArg some h46)
                  rw [HD.out.2.1, ← hpl, HL.out.1] at f2
                  rw [← hhl] at f1
                  have hu : y.natAbs / p2 j ≤ 9223372036854775808 := Nat.le_trans (Nat.div_le_self _ _) (by unfold In64 at hy; omega)
                  have v1 := HVV.out.1
                  rw [f1, valF_digits hu] at v1
                  injection v1 with v1 _
                  have hLL : L0 = cd j (y.natAbs % p2 j) := by
                    rw [← (digs_good L0 HL.out.2.1).2, f2, (digs_good _ (cd_digits j _ hr)).2]
                  have ht := HTOT.out
                  rw [hLL, bits_cd j _ hr, ← v1, Nat.div_add_mod'] at ht
                  have h1 := (parts_of e).1
                  rw [HP.out.2.1] at h1
                  refine ⟨h1, ?_⟩
                  unfold In64 at hy
                  omega
                have HVAL := Lib.hid hval
                have hno : (∀ y, In64 y → s.data.toList = decText y j → False) → parseS s.data.toList j = (0, false) := fun k => parseS_no fun y hy e => k y hy e
                have HNO := Lib.hid hno
                have hj62 := HP.out.2.2.2.2
                clear hN hL9 hLl hv hval hno
                cases neg
                · have hds2 : ¬ (d.size : Int) < (s.size : Int) := by
                    have h2 : s = d := HDE.out
                    rw [h2]; omega
                  obtain ⟨X, hX⟩ : ∃ X : Int, IntKind.i64.wrap (N : Int) = X := ⟨_, rfl⟩
                  have hXin : In64 X := by rw [← hX]; exact i64_in64 _
                  have HTX := Lib.hid (refText_any X j hj62 hXin wc)
                  have hXy : ∀ y, In64 y → s.data.toList = decText y j → X = y := fun y hy e => by
                    obtain ⟨h1, h2⟩ := HVAL.out y hy e
                    have h3 := of_decide_eq_false h1.symm
                    unfold In64 at hy
                    rw [← hX, IntKind.wrap_i64]
                    omega
                  by_cases heq : s.data.toList = decText X j
                  · have HN := Lib.hid (parseS_yes hj62 hXin heq)
                    have hne := str_same heq
                    clear heq hXy hXin
                    as_aux_lemma =>
                      go_wp2_with fail
                      (with_reducible refine HTX.out.mono ?_)
                      rintro e w1 ⟨rfl, hb1⟩
                      have HB1 := Lib.hid hb1
                      clear hb1
                      go_wp2_with fail
                      go_ret2
                      exact ⟨by rw [HN.out]; rfl, HB1.out⟩
                  · have HN := Lib.hid (HNO.out fun y hy e => heq (by rw [hXy y hy e]; exact e))
                    have hne := str_other heq
                    clear heq hXy hXin
                    as_aux_lemma =>
                      go_wp2_with fail
                      (with_reducible refine HTX.out.mono ?_)
                      rintro e w1 ⟨rfl, hb1⟩
                      have HB1 := Lib.hid hb1
                      clear hb1
                      go_wp2_with fail
                      go_ret2
                      exact ⟨by rw [HN.out]; rfl, HB1.out⟩
                · have hds2 : (d.size : Int) < (s.size : Int) := by
                    have h2 : s.extract 1 s.size = d := HDE.out
                    rcases HCS.out with ⟨_, h0, _⟩ | ⟨h, _⟩
                    · rw [← h2, ByteArray.size_extract]; omega
                    · cases h
                  obtain ⟨X0, hX0⟩ : ∃ X0 : Int, IntKind.i64.wrap (N : Int) = X0 := ⟨_, rfl⟩
                  obtain ⟨N1, hN1⟩ : ∃ N1 : Int, IntKind.u64.wrap (-(N : Int)) = N1 := ⟨_, rfl⟩
                  obtain ⟨X, hX⟩ : ∃ X : Int, IntKind.i64.wrap N1 = X := ⟨_, rfl⟩
                  have hXin : In64 X := by rw [← hX]; exact i64_in64 _
                  have HTX := Lib.hid (refText_any X j hj62 hXin wc)
                  have hXy : ∀ y, In64 y → s.data.toList = decText y j → X = y := fun y hy e => by
                    obtain ⟨h1, h2⟩ := HVAL.out y hy e
                    have h3 := of_decide_eq_true h1.symm
                    unfold In64 at hy
                    rw [← hX, ← hN1, IntKind.wrap_i64, IntKind.wrap_u64]
                    omega
                  by_cases heq : s.data.toList = decText X j
                  · have HN := Lib.hid (parseS_yes hj62 hXin heq)
                    have hne := str_same heq
                    clear heq hXy hXin
                    as_aux_lemma =>
                      go_wp2_with fail
                      (with_reducible refine HTX.out.mono ?_)
                      rintro e w1 ⟨rfl, hb1⟩
                      have HB1 := Lib.hid hb1
                      clear hb1
                      go_wp2_with fail
                      go_ret2
                      exact ⟨by rw [HN.out]; rfl, HB1.out⟩
                  · have HN := Lib.hid (HNO.out fun y hy e => heq (by rw [hXy y hy e]; exact e))
                    have hne := str_other heq
                    clear heq hXy hXin
                    as_aux_lemma =>
                      go_wp2_with fail
                      (with_reducible refine HTX.out.mono ?_)
                      rintro e w1 ⟨rfl, hb1⟩
                      have HB1 := Lib.hid hb1
                      clear hb1
                      go_wp2_with fail
                      go_ret2
                      exact ⟨by rw [HN.out]; rfl, HB1.out⟩

theorem refParse_any (s : ByteArray) (q : Int) (w : World) (hs : s.size ≤ 1000) : Calls Tryz.prog 24 #[.string s, .int .i64 q] w (GivesParse s.data.toList q w) := by
  have hlen : s.data.toList.length = s.size := Array.length_toList
  by_cases hq : 0 ≤ q ∧ q ≤ 62
  · obtain ⟨n, rfl⟩ : ∃ n : Nat, q = (n : Int) := ⟨q.toNat, by omega⟩
    by_cases h100 : s.size ≤ 100
    · exact refParse_in s n w h100 (by omega)
    · have h100' : (100 : Int) < (s.size : Int) := by omega
      have HN := Lib.hid (parseS_no (l := s.data.toList) (q := n) fun y hy e => by
        have := decText_len y n (by omega) hy
        rw [← e] at this
        omega)
      obtain ⟨h1, h2⟩ := hq
      clear h100 hlen
      go_enter Tryz.func24, Tryz.ntmps24
      go_wp2_with fail
      go_ret2
      exact ⟨by rw [HN.out]; rfl, Below.refl _ _⟩
  · have HN := Lib.hid (parseS_out (l := s.data.toList) hq)
    have h : q < 0 ∨ (0 ≤ q ∧ 62 < q) := by omega
    clear hq hlen hs
    rcases h with h | ⟨h1, h2⟩
    all_goals
      go_enter Tryz.func24, Tryz.ntmps24
      go_wp2_with fail
      go_ret2
      exact ⟨by rw [HN.out]; rfl, Below.refl _ _⟩

end Go.Proofs.YtiokdfkddcokoaaGreatDoor
