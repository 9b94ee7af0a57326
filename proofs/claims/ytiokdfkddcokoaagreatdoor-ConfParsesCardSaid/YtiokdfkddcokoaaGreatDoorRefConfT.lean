/- Walks: the reference's fields, between and Text of a configuration. Conditions: none. -/
import Derived.Test.YtiokdfkddcokoaaGreatDoorConfText
import Derived.Test.YtiokdfkddcokoaaGreatDoorRefText
namespace Go.Proofs.YtiokdfkddcokoaaGreatDoor
open Go.RowKit

set_option maxHeartbeats 1000000 in
theorem between_any (x lo hi : Int) (w : World) : Calls Tryz.prog 17 #[.int .i64 x, .int .i64 lo, .int .i64 hi] w fun e w' => e = .returned (.bool (decide (lo ≤ x ∧ x ≤ hi))) ∧ w = w' := by
  go_enter Tryz.func17, Tryz.ntmps17
  go_wp2
  all_goals
    go_ret
    refine ⟨ret_bool ?_, rfl⟩
    first | (simp_all; done) | (simp_all; omega)

/-- The reference's numbers of a configuration. -/
def nums9 (c : Cf) : List Int := [c.sh, c.wo, c.ba, c.mi, c.st, c.bu, c.ch, c.wi, c.ca]

set_option maxRecDepth 100000 in
set_option maxHeartbeats 1000000 in
theorem refFields_any (A : Option Addr) (n cap : Nat) (c : Cf) (w : World) : Calls Tryz.prog 16 #[.agg (cfCells A n cap c)] w
    fun e w' => ∃ q, e = .returned (.slice (some ⟨q, 0, none⟩) 9 9) ∧ w'.heap[q]? = some (.cells ((nums9 c).map (Value.int .i64)).toArray 3 (0, 0)) ∧ w.heap.size ≤ q ∧ Below w.heap.size w w' := by
  unfold cfCells nums9
  go_enter Tryz.func16, Tryz.ntmps16
  go_wp2
  go_ret
  refine ⟨_, rfl, ?_, ?_, ((Below.refl w.heap.size w).alloc (Nat.le_refl _) _).alloc (by simp) _⟩
  · have := heap_alloc_new (w.alloc (.cells #[.slice A n cap, .int .i64 c.sh, .int .i64 c.ra, .int .i64 c.mo, .int .i64 c.wo, .int .i64 c.ba, .int .i64 c.mi, .int .i64 c.st, .int .i64 c.bu, .int .i64 c.ch, .int .i64 c.wi, .int .i64 c.ca] 24)) (.cells #[.int .i64 c.sh, .int .i64 c.wo, .int .i64 c.ba, .int .i64 c.mi, .int .i64 c.st, .int .i64 c.bu, .int .i64 c.ch, .int .i64 c.wi, .int .i64 c.ca] 3)
    rw [World.size_alloc] at this
    exact this
  · omega

/-- Number i of the reference's is field k. -/
def kOf (i : Nat) : Nat := if i = 0 then 1 else i + 3
theorem nums9_at (c : Cf) (i : Nat) (hi : i < 9) : (nums9 c)[i]? = some (numK c (kOf i)) := by
  have hc : i = 0 ∨ i = 1 ∨ i = 2 ∨ i = 3 ∨ i = 4 ∨ i = 5 ∨ i = 6 ∨ i = 7 ∨ i = 8 := by omega
  rcases hc with rfl | rfl | rfl | rfl | rfl | rfl | rfl | rfl | rfl <;> rfl

theorem cfB_no9 {zs : List Int} {c : Cf} {i : Nat} (hi : i < 9) (h : ¬ In20 (numK c (kOf i))) : cfB zs c = false := by
  cases hb : cfB zs c
  · rfl
  · exfalso
    have ho := cfB_iff.1 hb
    apply h
    have hc : i = 0 ∨ i = 1 ∨ i = 2 ∨ i = 3 ∨ i = 4 ∨ i = 5 ∨ i = 6 ∨ i = 7 ∨ i = 8 := by omega
    rcases hc with rfl | rfl | rfl | rfl | rfl | rfl | rfl | rfl | rfl
    · have := ho.sh; show In20 c.sh; unfold In20; omega
    · exact ho.wo
    · exact ho.ba
    · exact ho.mi
    · exact ho.st
    · exact ho.bu
    · exact ho.ch
    · exact ho.wi
    · exact ho.ca
theorem cfB_no {zs : List Int} {c : Cf} (h : zs = [] ∨ 62 < c.sh ∨ ∃ z ∈ zs, ¬ In20 z) : cfB zs c = false := by
  cases hb : cfB zs c
  · rfl
  · exfalso
    have ho := cfB_iff.1 hb
    rcases h with h | h | ⟨z, hz, h⟩
    · exact ho.ne h
    · have := ho.sh.2; omega
    · exact h (ho.sz z hz)
theorem cfB_yes {zs : List Int} {c : Cf} (h9 : ∀ i, i < 9 → In20 (numK c (kOf i))) (h0 : zs ≠ []) (h62 : c.sh ≤ 62) (hz : ∀ z ∈ zs, In20 z) : cfB zs c = true :=
  cfB_iff.2 ⟨h0, hz, ⟨(h9 0 (by decide)).1, h62⟩, h9 1 (by decide), h9 2 (by decide), h9 3 (by decide), h9 4 (by decide), h9 5 (by decide), h9 6 (by decide), h9 7 (by decide), h9 8 (by decide)⟩

theorem itoa_pos {x : Int} (h : 0 ≤ x) : Lib.itoa x = Lib.decDigits x.toNat := by
  rw [itoa_parts, if_neg (by omega), List.nil_append]
  congr 1
  omega

theorem txtK_num (zs : List Int) (c : Cf) : ∀ k, 4 ≤ k → txtK zs c k = Lib.itoa (numK c k)
  | 0, h | 1, h | 2, h | 3, h => by omega
  | _ + 4, _ => rfl
theorem nameK_len (k : Nat) : (nameK k).size ≤ 8 := by unfold nameK; split <;> decide
theorem kOf_pos (j : Nat) (h : 0 < j) : kOf j = j + 3 := if_neg (by omega)
def words9 : Array Value := #[.string ⟨#[]⟩, .string (nameK 4), .string (nameK 5), .string (nameK 6), .string (nameK 7), .string (nameK 8), .string (nameK 9), .string (nameK 10), .string (nameK 11)]
theorem words9_at (j : Nat) (h0 : 0 < j) (h : j < 9) : words9[j]? = some (.string (nameK (j + 3))) := by
  have hc : j = 1 ∨ j = 2 ∨ j = 3 ∨ j = 4 ∨ j = 5 ∨ j = 6 ∨ j = 7 ∨ j = 8 := by omega
  rcases hc with rfl | rfl | rfl | rfl | rfl | rfl | rfl | rfl <;> rfl

/-- A walk's first loop: all numbers of the reference are small. -/
def Sm9 (c : Cf) (i : Nat) : Prop := ∀ j, j < i → In20 (numK c (kOf j))

/-- The first words of the text, joined. -/
def preW (zs : List Int) (c : Cf) (k : Nat) : List UInt8 := Lib.join ((cfWords zs c).take (2 * k)) [32]
theorem join_two (l : List (List UInt8)) (a b : List UInt8) (h : l ≠ []) : Lib.join (l ++ [a, b]) [32] = Lib.join l [32] ++ [32] ++ a ++ [32] ++ b := by
  rw [join_app 32 l [a, b] h (by simp)]
  have : Lib.join [a, b] [32] = a ++ 32 :: b := by
    rw [Lib.join_cons]
    simp [Lib.joinTail]
  rw [this]
  simp
theorem preW_next (zs : List Int) (c : Cf) (k : Nat) (h0 : 0 < k) (hk : k < 12) : preW zs c (k + 1) = preW zs c k ++ [32] ++ (nameK k).data.toList ++ [32] ++ txtK zs c k := by
  have e : (cfWords zs c).take (2 * (k + 1)) = (cfWords zs c).take (2 * k) ++ [(nameK k).data.toList, txtK zs c k] := by
    have hc : k = 1 ∨ k = 2 ∨ k = 3 ∨ k = 4 ∨ k = 5 ∨ k = 6 ∨ k = 7 ∨ k = 8 ∨ k = 9 ∨ k = 10 ∨ k = 11 := by omega
    rcases hc with rfl | rfl | rfl | rfl | rfl | rfl | rfl | rfl | rfl | rfl | rfl <;> rfl
  unfold preW
  rw [e, join_two]
  intro h
  have := congrArg List.length h
  rw [List.length_take, show (cfWords zs c).length = 24 from rfl] at this
  simp at this
  omega
theorem preW_one (zs : List Int) (c : Cf) : preW zs c 1 = wSizes ++ [32] ++ szText zs := by
  show Lib.join [wSizes, szText zs] [32] = _
  have : Lib.join [wSizes, szText zs] [32] = wSizes ++ 32 :: szText zs := by
    rw [Lib.join_cons]
    simp [Lib.joinTail]
  rw [this]
  simp
theorem preW_all (zs : List Int) (c : Cf) : preW zs c 12 = cfText zs c := rfl
theorem preW_four (zs : List Int) (c : Cf) : preW zs c 4 = wSizes ++ [32] ++ szText zs ++ [32] ++ wShift ++ [32] ++ Lib.itoa c.sh ++ [32] ++ wRate ++ [32] ++ decText c.ra c.sh.toNat ++ [32] ++ wMom ++ [32] ++ decText c.mo c.sh.toNat := by
  rw [preW_next zs c 3 (by decide) (by decide), preW_next zs c 2 (by decide) (by decide), preW_next zs c 1 (by decide) (by decide), preW_one]
  rfl
theorem szText_snoc (zs : List Int) (x : Int) (h : zs ≠ []) : szText (zs ++ [x]) = szText zs ++ [44] ++ Lib.itoa x := by
  unfold szText
  rw [List.map_append]
  have := join_app 44 (zs.map Lib.itoa) [Lib.itoa x] (by simpa using h) (by simp)
  rw [Lib.join_one] at this
  rw [List.map_cons, List.map_nil, this]
  simp

set_option maxRecDepth 100000 in
set_option maxHeartbeats 8000000 in
theorem refConfText_any (A : Option Addr) (cap : Nat) (zs : List Int) (c : Cf) (h64 : Cf64 zs c) (hl : zs.length ≤ 1000) (w : World) (hr : RdI w w.heap.size A zs) :
    Calls Tryz.prog 8 #[.agg (cfCells A zs.length cap c)] w fun e w' => e = .returned (.tuple #[.string ⟨(cfTextS zs c).toArray⟩, .bool (cfB zs c)]) ∧ Below w.heap.size w w' := by
  have hb0 := (Below.refl w.heap.size w).alloc (Nat.le_refl _) (.cells (cfCells A zs.length cap c) 24)
  have HX := Lib.hid (show CfAt (w.alloc (.cells (cfCells A zs.length cap c) 24)) w.heap.size A cap zs c from ⟨heap_alloc_new w _, (hr.below hb0).more hb0.size⟩)
  have HF := Lib.hid (fun W => refFields_any A zs.length cap c W)
  have HB0 := Lib.hid hb0
  have H64 := Lib.hid h64
  have HL := Lib.hid hl
  have hl0 : (zs.length : Int) ≤ 1000 := by omega
  have HE := Lib.hid (show cfTextS zs c = if cfB zs c then cfText zs c else [] from rfl)
  have HBT := Lib.hid (fun x lo hi W => between_any x lo hi W)
  have c0 := blk_cell HX.out.1 0
  have c1 := blk_cell HX.out.1 1
  have c2 := blk_cell HX.out.1 2
  clear hb0 h64 hl hr c0 c1 c2
  generalize cfTextS zs c = TS at HE ⊢
  unfold cfCells at HF HX HB0 ⊢
  go_enter Tryz.func8, Tryz.ntmps8
  go_wp2_with fail
  (with_reducible refine (HF.out _).mono ?_)
  rintro e w1 ⟨q, rfl, hq, hql, hb⟩
  have HB1 := Lib.hid (HB0.out.trans (hb.mono HB0.out.size))
  have HX1 := Lib.hid (HX.out.below hb)
  have HQ := Lib.hid hq
  have hqlt := blk_lt hq
  clear hq hb HX HB0 HF hql
  go_wp2_with fail
  go_loop [5] (fun i => ∃ k : Nat, k ≤ 9 ∧ i = .int .i64 k ∧ Hid (Sm9 c k)) (fun i => 9 - (intOf i).toNat)
  case atStart => exact ⟨0, by decide, rfl, Lib.hid (fun j hj => absurd hj (Nat.not_lt_zero j))⟩
  case round =>
    obtain ⟨k, hk, rfl, HS9⟩ := hrel
    by_cases hlt : k < 9
    · have cq : w1.cell? ⟨q, k, none⟩ = some (.int .i64 (numK c (kOf k))) := (blk_cell HQ.out k).trans (by simp [nums9_at c k hlt])
      obtain ⟨x, hx⟩ : ∃ x, numK c (kOf k) = x := ⟨_, rfl⟩
      rw [hx] at cq
      have HXX := Lib.hid hx
      have HLT := Lib.hid hlt
      have k0 : (0 : Int) ≤ (k : Int) := by omega
      have k1 : (k : Int) < 9 := by omega
      clear hx
      by_cases hin : 0 ≤ x ∧ x ≤ 1048576
      · have HC := Lib.hid (HBT.out x 0 1048576)
        rw [decide_eq_true hin] at HC
        have HIN := Lib.hid hin
        clear hin
        go_wp2_with fail
        (with_reducible refine (HC.out _).mono ?_)
        rintro e w2 ⟨rfl, rfl⟩
        go_wp2_with fail
        go_round
        case rel => exact ⟨k + 1, by omega, by go_num, Lib.hid (fun j hj => by
          rcases Nat.lt_succ_iff_lt_or_eq.1 hj with h | rfl
          · exact HS9.out j h
          · rw [HXX.out]; exact HIN.out)⟩
        case measure => simp [intOf]; omega
      · have HC := Lib.hid (HBT.out x 0 1048576)
        rw [decide_eq_false hin] at HC
        have hb : cfB zs c = false := cfB_no9 HLT.out (by rw [HXX.out]; exact hin)
        have HBB := Lib.hid hb
        have HE2 := Lib.hid (show TS = [] by rw [HE.out, hb]; rfl)
        clear hin hb
        go_wp2_with fail
        (with_reducible refine (HC.out _).mono ?_)
        rintro e w2 ⟨rfl, rfl⟩
        go_wp2_with fail
        go_ret2
        exact ⟨by rw [HE2.out, HBB.out]; rfl, HB1.out⟩
    · have hke : k = 9 := by omega
      subst hke
      have d0 : w1.cell? ⟨w.heap.size, 0, none⟩ = some (.slice A zs.length cap) := blk_cell HX1.out.1 0
      have d1 : w1.cell? ⟨w.heap.size, 1, none⟩ = some (.int .i64 c.sh) := blk_cell HX1.out.1 1
      have hs0 := (HS9.out 0 (by decide)).1
      simp only [kOf, if_true, numK] at hs0
      by_cases hz : zs = []
      · have hb : cfB zs c = false := cfB_no (.inl hz)
        have HBB := Lib.hid hb
        have HE2 := Lib.hid (show TS = [] by rw [HE.out, hb]; rfl)
        have he : ((zs.length : Int) == 0) = true := by rw [hz]; rfl
        clear hz hb hs0
        go_wp2_with fail
        go_ret2
        exact ⟨by rw [HE2.out, HBB.out]; rfl, HB1.out⟩
      have hzp : 0 < zs.length := List.length_pos_iff.2 hz
      have he : ((zs.length : Int) == 0) = false := by rw [beq_eq_false_iff_ne]; omega
      have HZN := Lib.hid hz
      by_cases h62 : 62 < c.sh
      · have hb : cfB zs c = false := cfB_no (.inr (.inl h62))
        have HBB := Lib.hid hb
        have HE2 := Lib.hid (show TS = [] by rw [HE.out, hb]; rfl)
        clear hz hb hs0
        go_wp2_with fail
        go_ret2
        exact ⟨by rw [HE2.out, HBB.out]; rfl, HB1.out⟩
      have h62' : c.sh ≤ 62 := by omega
      clear h62 hz
      go_wp2_with fail
      go_loop [6, 7] (fun s i => ∃ k : Nat, k ≤ zs.length ∧ i = .int .i64 k ∧ s = .string ⟨(wSizes ++ [32] ++ szText (zs.take k)).toArray⟩ ∧ Hid (∀ z ∈ zs.take k, In20 z)) (fun _ i => zs.length - (intOf i).toNat)
      case atStart => exact ⟨0, Nat.zero_le _, rfl, rfl, Lib.hid (by simp)⟩
      case round =>
        obtain ⟨k, hk, rfl, rfl, HZk⟩ := hrel
        by_cases hlt : k < zs.length
        · obtain ⟨bA, off, rfl, hbA, hcz⟩ := HX1.out.2.at_ (by omega)
          obtain ⟨z, hz⟩ := get_some zs k hlt
          have cz : w1.cell? ⟨bA, off + k, none⟩ = some (.int .i64 z) := hcz k z hz
          have tz : zs.take (k + 1) = zs.take k ++ [z] := by rw [List.take_add_one, hz]; rfl
          have hzm := List.mem_of_getElem? hz
          have k0 : (0 : Int) ≤ (k : Int) := by omega
          have k1 : (k : Int) < (zs.length : Int) := by omega
          by_cases hin : 0 ≤ z ∧ z ≤ 1048576
          · obtain ⟨n, rfl⟩ := Int.eq_ofNat_of_zero_le hin.1
            have hn : n ≤ 1048576 := by omega
            have HC := Lib.hid (HBT.out (n : Int) 0 1048576)
            rw [decide_eq_true hin] at HC
            have hwr : IntKind.u64.wrap (n : Int) = n := by rw [IntKind.wrap_u64]; omega
            have HU := Lib.hid (fun W => unsigned_any n W (by omega))
            have HZ2 := Lib.hid (show ∀ x ∈ zs.take (k + 1), In20 x from fun x hx => by
              rw [tz] at hx
              rcases List.mem_append.1 hx with h | h
              · exact HZk.out x h
              · rw [List.mem_singleton] at h; subst h; exact hin)
            have hit : Lib.itoa (n : Int) = Lib.decDigits n := itoa_pos (by omega)
            have sz : ∀ l : List UInt8, (⟨l.toArray⟩ : ByteArray).size = l.length := fun l => by simp [ByteArray.size]
            have hpl := sz_len (zs.take k) (fun x hx => (HZk.out x hx).in64)
            have htk : (zs.take k).length ≤ k := List.length_take_le k zs
            have hdl := dec_len n (by omega)
            have hstep0 : k = 0 → wSizes ++ [32] ++ szText (zs.take (k + 1)) = wSizes ++ [32] ++ szText (zs.take k) ++ Lib.decDigits n := fun h0 => by
              rw [tz]
              subst h0
              simp only [List.take_zero, List.nil_append]
              show _ ++ Lib.join [Lib.itoa (n : Int)] [44] = _ ++ Lib.join [] [44] ++ _
              rw [Lib.join_one, Lib.join_nil, hit, List.append_nil]
            have hstep1 : k ≠ 0 → wSizes ++ [32] ++ szText (zs.take (k + 1)) = wSizes ++ [32] ++ szText (zs.take k) ++ [44] ++ Lib.decDigits n := fun h0 => by
              rw [tz, szText_snoc _ _ (fun e => by have h1 := congrArg List.length e; rw [List.length_take, List.length_nil] at h1; omega), hit]
              simp
            obtain ⟨p, hp⟩ : ∃ p : ByteArray, ⟨(wSizes ++ [32] ++ szText (zs.take k)).toArray⟩ = p := ⟨_, rfl⟩
            obtain ⟨t, ht⟩ : ∃ t : ByteArray, ⟨(Lib.decDigits n).toArray⟩ = t := ⟨_, rfl⟩
            have hps : p.size ≤ 30000 := by rw [← hp, sz]; simp [wSizes]; omega
            have hts : t.size ≤ 20 := by rw [← ht, sz]; exact hdl
            rw [ht] at HU
            rw [hp]
            have H0 := Lib.hid (fun h0 => show p ++ t = ⟨(wSizes ++ [32] ++ szText (zs.take (k + 1))).toArray⟩ by rw [hstep0 h0, ← hp, ← ht, list_app])
            have H1 := Lib.hid (fun h0 => show p ++ ⟨#[44]⟩ ++ t = ⟨(wSizes ++ [32] ++ szText (zs.take (k + 1))).toArray⟩ by rw [hstep1 h0, ← hp, ← ht, show (⟨#[44]⟩ : ByteArray) = ⟨([44] : List UInt8).toArray⟩ from rfl, list_app, list_app])
            clear hcz hz tz hzm hin hit sz hpl htk hdl hstep0 hstep1 hp ht
            by_cases hk0 : k = 0
            · have HE3 := Lib.hid (H0.out hk0)
              have hk0' : ¬ (0 : Int) < (k : Int) := by omega
              clear hk0 H0 H1
              go_wp2_with fail
              (with_reducible refine (HC.out _).mono ?_)
              rintro e w2 ⟨rfl, rfl⟩
              go_wp2_with fail
              (with_reducible refine (HU.out _).mono ?_)
              rintro e w2 ⟨rfl, rfl⟩
              go_wp2_with fail
              rw [HE3.out]
              go_round
              case rel => exact ⟨k + 1, by omega, by go_num, rfl, HZ2⟩
              case measure => simp [intOf]; omega
            · have HE3 := Lib.hid (H1.out hk0)
              have hk0' : (0 : Int) < (k : Int) := by omega
              clear hk0 H0 H1
              go_wp2_with fail
              (with_reducible refine (HC.out _).mono ?_)
              rintro e w2 ⟨rfl, rfl⟩
              go_wp2_with fail
              (with_reducible refine (HU.out _).mono ?_)
              rintro e w2 ⟨rfl, rfl⟩
              go_wp2_with fail
              rw [HE3.out]
              go_round
              case rel => exact ⟨k + 1, by omega, by go_num, rfl, HZ2⟩
              case measure => simp [intOf]; omega
          · have HC := Lib.hid (HBT.out z 0 1048576)
            rw [decide_eq_false hin] at HC
            have hb : cfB zs c = false := cfB_no (.inr (.inr ⟨z, hzm, hin⟩))
            have HBB := Lib.hid hb
            have HE2 := Lib.hid (show TS = [] by rw [HE.out, hb]; rfl)
            clear hin hb hz tz hzm hcz
            go_wp2_with fail
            (with_reducible refine (HC.out _).mono ?_)
            rintro e w2 ⟨rfl, rfl⟩
            go_wp2_with fail
            go_ret2
            exact ⟨by rw [HE2.out, HBB.out]; rfl, HB1.out⟩
        · have hke : k = zs.length := by omega
          subst hke
          have hby : cfB zs c = true := cfB_yes HS9.out HZN.out h62' (fun z hz => HZk.out z (by rwa [List.take_of_length_le (Nat.le_refl _)]))
          have HBY := Lib.hid hby
          have HE2 := Lib.hid (show TS = cfText zs c by rw [HE.out, hby, if_pos rfl])
          rw [List.take_of_length_le (Nat.le_refl _)]
          obtain ⟨sq, hsq⟩ := Int.eq_ofNat_of_zero_le hs0
          have hsq62 : sq ≤ 62 := by omega
          have d2 : w1.cell? ⟨w.heap.size, 2, none⟩ = some (.int .i64 c.ra) := blk_cell HX1.out.1 2
          have d3 : w1.cell? ⟨w.heap.size, 3, none⟩ = some (.int .i64 c.mo) := blk_cell HX1.out.1 3
          have hf4 := preW_four zs c
          have hsl := sz_len zs H64.out.1
          rw [hsq, Int.toNat_natCast] at hf4
          rw [hsq] at d1
          have hit : Lib.itoa (sq : Int) = Lib.decDigits sq := itoa_pos (by omega)
          rw [hit] at hf4
          have hwr : IntKind.u64.wrap (sq : Int) = sq := by rw [IntKind.wrap_u64]; omega
          have HU := Lib.hid (fun W => unsigned_any sq W (by omega))
          have HTA := Lib.hid (fun W => refText_any c.ra sq hsq62 (H64.out.2 2) W)
          have HTM := Lib.hid (fun W => refText_any c.mo sq hsq62 (H64.out.2 3) W)
          have sz : ∀ l : List UInt8, (⟨l.toArray⟩ : ByteArray).size = l.length := fun l => by simp [ByteArray.size]
          have l1 := dec_len sq (by omega)
          have l2 := decText_len c.ra sq hsq62 (H64.out.2 2)
          have l3 := decText_len c.mo sq hsq62 (H64.out.2 3)
          obtain ⟨p0, hp0⟩ : ∃ p : ByteArray, ⟨(wSizes ++ [32] ++ szText zs).toArray⟩ = p := ⟨_, rfl⟩
          obtain ⟨t1, ht1⟩ : ∃ t : ByteArray, ⟨(Lib.decDigits sq).toArray⟩ = t := ⟨_, rfl⟩
          obtain ⟨t2, ht2⟩ : ∃ t : ByteArray, ⟨(decText c.ra sq).toArray⟩ = t := ⟨_, rfl⟩
          obtain ⟨t3, ht3⟩ : ∃ t : ByteArray, ⟨(decText c.mo sq).toArray⟩ = t := ⟨_, rfl⟩
          have hp0s : p0.size ≤ 30000 := by rw [← hp0, sz]; simp [wSizes]; omega
          have ht1s : t1.size ≤ 20 := by rw [← ht1, sz]; exact l1
          have ht2s : t2.size ≤ 100 := by rw [← ht2, sz]; exact l2
          have ht3s : t3.size ≤ 100 := by rw [← ht3, sz]; exact l3
          have H4 := Lib.hid (show p0 ++ ⟨#[32, 115, 104, 105, 102, 116, 32]⟩ ++ t1 ++ ⟨#[32, 114, 97, 116, 101, 32]⟩ ++ t2 ++ ⟨#[32, 109, 111, 109, 101, 110, 116, 117, 109, 32]⟩ ++ t3 = (⟨(preW zs c 4).toArray⟩ : ByteArray) by
            rw [hf4, ← hp0, ← ht1, ← ht2, ← ht3]
            rw [show (⟨#[32, 115, 104, 105, 102, 116, 32]⟩ : ByteArray) = ⟨([32, 115, 104, 105, 102, 116, 32] : List UInt8).toArray⟩ from rfl, show (⟨#[32, 114, 97, 116, 101, 32]⟩ : ByteArray) = ⟨([32, 114, 97, 116, 101, 32] : List UInt8).toArray⟩ from rfl, show (⟨#[32, 109, 111, 109, 101, 110, 116, 117, 109, 32]⟩ : ByteArray) = ⟨([32, 109, 111, 109, 101, 110, 116, 117, 109, 32] : List UInt8).toArray⟩ from rfl]
            simp only [list_app]
            simp [wShift, wRate, wMom])
          rw [ht1] at HU
          rw [ht2] at HTA
          rw [ht3] at HTM
          rw [hp0]
          clear hby hs0 hsq hf4 hsl hit sz l1 l2 l3 hp0 ht1 ht2 ht3 hzp h62' hsq62 he
          have HD := Lib.hid (And.intro d1 (And.intro d2 d3))
          have hwl := World.block_lt_of_cell? w1 _ d1
          go_wp2_with fail
          have g1 : (9223372036854775807 < p0.size + 7) = False := eq_false (by omega)
          have g2 : (9223372036854775807 < p0.size + 7 + t1.size) = False := eq_false (by omega)
          have g3 : (9223372036854775807 < p0.size + 7 + t1.size + 6) = False := eq_false (by omega)
          have g4 : (9223372036854775807 < p0.size + 7 + t1.size + 6 + t2.size) = False := eq_false (by omega)
          have g5 : (9223372036854775807 < p0.size + 7 + t1.size + 6 + t2.size + 10) = False := eq_false (by omega)
          have g6 : (9223372036854775807 < p0.size + 7 + t1.size + 6 + t2.size + 10 + t3.size) = False := eq_false (by omega)
          go_region_held3 (fun w' => w'.cell? ⟨w.heap.size, 1, none⟩ = some (.int .i64 sq) ∧ w'.cell? ⟨w.heap.size, 2, none⟩ = some (.int .i64 c.ra) ∧ w'.cell? ⟨w.heap.size, 3, none⟩ = some (.int .i64 c.mo))
            (first
              | exact ⟨Keeps.cell (w := w1) HB6.out HD.out.1, Keeps.cell (w := w1) HB6.out HD.out.2.1, Keeps.cell (w := w1) HB6.out HD.out.2.2⟩
              | exact ⟨Keeps.cell (w := w1) HB5.out HD.out.1, Keeps.cell (w := w1) HB5.out HD.out.2.1, Keeps.cell (w := w1) HB5.out HD.out.2.2⟩
              | exact ⟨Keeps.cell (w := w1) HB4.out HD.out.1, Keeps.cell (w := w1) HB4.out HD.out.2.1, Keeps.cell (w := w1) HB4.out HD.out.2.2⟩
              | exact HD.out)
            (first
              | (go_at_call 18
                 (with_reducible refine (HU.out _).mono ?_)
                 rintro e wu ⟨rfl, rfl⟩
                 have HB4 := Lib.hid (Keeps.self w1)
                 clear HU)
              | (go_at_call 19
                 (with_reducible refine (HTA.out _).mono ?_)
                 rintro e w4 ⟨rfl, hb⟩
                 have HB5 := Lib.hid (show Below w1.heap.size w1 w4 from Below.trans (Keeps.self w1) hb)
                 clear HTA hb)
              | (go_at_call 19
                 (with_reducible refine (HTM.out _).mono ?_)
                 rintro e w6 ⟨rfl, hb⟩
                 have HB6 := Lib.hid (HB5.out.trans (hb.mono HB5.out.size))
                 clear HTM hb HB5 HB4))
          rw [H4.out]
          have HQ6 := Lib.hid (show w6.heap[q]? = some (.cells ((nums9 c).map (Value.int .i64)).toArray 3 (0, 0)) from blk_below HQ.out HB6.out hqlt)
          have HBF := Lib.hid (HB1.out.trans (HB6.out.mono HB1.out.size))
          clear g1 g2 g3 g4 g5 g6 H4 HQ HX1 HBT hp0s ht1s ht2s ht3s HZk d0 d1 d2 d3 HD
          go_wp2_with fail
          have hw9 := heap_alloc_new w6 (.cells words9 9)
          have hq9 := blk_alloc HQ6.out (.cells words9 9)
          have HW9 := Lib.hid hw9
          have HQ9 := Lib.hid hq9
          have HB9 := Lib.hid (HBF.out.alloc HBF.out.size (.cells words9 9))
          clear hw9 hq9 HQ6 HBF
          go_loopw [6, 9] (fun s i wr => ∃ j : Nat, 1 ≤ j ∧ j ≤ 9 ∧ i = .int .i64 j ∧ s = .string ⟨(preW zs c (j + 3)).toArray⟩ ∧ Hid (wr.heap[q]? = some (.cells ((nums9 c).map (Value.int .i64)).toArray 3 (0, 0))) ∧ Hid (wr.heap[w6.heap.size]? = some (.cells words9 9 (0, 0))) ∧ Hid (Below w.heap.size w wr)) (fun _ i _ => 9 - (intOf i).toNat)
          case atStart => exact ⟨1, by decide, by decide, rfl, rfl, HQ9, HW9, HB9⟩
          case round =>
            obtain ⟨j, hj1, hj9, rfl, rfl, HQj, HWj, HBj⟩ := hrel
            by_cases hlt : j < 9
            · have hin := HS9.out j hlt
              have cq : wr.cell? ⟨q, j, none⟩ = some (.int .i64 (numK c (kOf j))) := (blk_cell HQj.out j).trans (by simp [nums9_at c j hlt])
              have cw : wr.cell? ⟨w6.heap.size, j, none⟩ = some (.string (nameK (j + 3))) := (blk_cell HWj.out j).trans (words9_at j hj1 hlt)
              have hnx := preW_next zs c (j + 3) (by omega) (by omega)
              rw [txtK_num zs c (j + 3) (by omega)] at hnx
              rw [kOf_pos j hj1] at hin cq
              obtain ⟨x, hx⟩ : ∃ x, numK c (j + 3) = x := ⟨_, rfl⟩
              rw [hx] at hnx hin cq
              obtain ⟨n, rfl⟩ := Int.eq_ofNat_of_zero_le hin.1
              have hn : n ≤ 1048576 := by have := hin.2; omega
              rw [itoa_pos (by omega : (0 : Int) ≤ (n : Int)), Int.toNat_natCast] at hnx
              have hwr : IntKind.u64.wrap (n : Int) = n := by rw [IntKind.wrap_u64]; omega
              have HU := Lib.hid (fun W => (unsigned_any n W (by omega)).mono (R' := fun e w' => e = .returned (.string ⟨(Lib.decDigits n).toArray⟩) ∧ w' = W) fun e w' h => ⟨h.1, h.2.symm⟩)
              have sz : ∀ l : List UInt8, (⟨l.toArray⟩ : ByteArray).size = l.length := fun l => by simp [ByteArray.size]
              have hdl := dec_len n (by omega)
              have hnl := nameK_len (j + 3)
              have hcl : (preW zs c (j + 3)).length ≤ 1000000 := by
                have h1 := cf_len zs c H64.out HL.out (cfB_iff.1 HBY.out).sh
                have h2 : ∀ k, 0 < k → k < 12 → (preW zs c k).length ≤ (preW zs c (k + 1)).length := fun k h0 h1 => by
                  rw [preW_next zs c k h0 h1]
                  simp only [List.length_append]
                  omega
                have h3 : ∀ m k, 0 < k → k + m = 12 → (preW zs c k).length ≤ (preW zs c 12).length := fun m => by
                  induction m with
                  | zero => intro k _ h; obtain rfl : k = 12 := by omega
                            exact Nat.le_refl _
                  | succ m ih => intro k h0 h; exact Nat.le_trans (h2 k h0 (by omega)) (ih (k + 1) (by omega) (by omega))
                have h4 := h3 (9 - j) (j + 3) (by omega) (by omega)
                rw [preW_all] at h4
                omega
              obtain ⟨p, hp⟩ : ∃ p : ByteArray, ⟨(preW zs c (j + 3)).toArray⟩ = p := ⟨_, rfl⟩
              obtain ⟨t, ht⟩ : ∃ t : ByteArray, ⟨(Lib.decDigits n).toArray⟩ = t := ⟨_, rfl⟩
              obtain ⟨nm, hnm⟩ : ∃ nm, nameK (j + 3) = nm := ⟨_, rfl⟩
              rw [hnm] at cw hnx hnl
              have hps : p.size ≤ 1000000 := by rw [← hp, sz]; exact hcl
              have hts : t.size ≤ 20 := by rw [← ht, sz]; exact hdl
              have HN := Lib.hid (show p ++ ⟨#[32]⟩ ++ nm ++ ⟨#[32]⟩ ++ t = (⟨(preW zs c (j + 1 + 3)).toArray⟩ : ByteArray) by
                rw [show j + 1 + 3 = j + 3 + 1 by omega, hnx, ← hp, ← ht, show nm = (⟨nm.data.toList.toArray⟩ : ByteArray) by simp, show (⟨#[32]⟩ : ByteArray) = ⟨([32] : List UInt8).toArray⟩ from rfl]
                simp only [list_app])
              rw [ht] at HU
              rw [hp]
              have g1 : (9223372036854775807 < p.size + 1) = False := eq_false (by omega)
              have g2 : (9223372036854775807 < p.size + 1 + nm.size) = False := eq_false (by omega)
              have g3 : (9223372036854775807 < p.size + 1 + nm.size + 1) = False := eq_false (by omega)
              have g4 : (9223372036854775807 < p.size + 1 + nm.size + 1 + t.size) = False := eq_false (by omega)
              have j0 : (0 : Int) ≤ (j : Int) := by omega
              have j1 : (j : Int) < 9 := by omega
              clear hin hnx hx hn sz hdl hcl hp ht hnm hnl hps hts
              go_wp2_with fail
              go_quiet ((go_at_call 18; exact Calls.quiet_of_same (HU.out _)))
              go_wp2_with fail
              rw [HN.out]
              go_roundw
              case rel => exact ⟨j + 1, by omega, by omega, by go_num, rfl, Lib.hid (blk_drewN HQj.out _), Lib.hid (blk_drewN HWj.out _), Lib.hid (below_drewN HBj.out _)⟩
              case measure => simp [intOf]; omega
            · have hje : j = 9 := by omega
              subst hje
              go_wp2_with fail
              go_ret2
              exact ⟨by rw [HE2.out, HBY.out]; rfl, HBj.out⟩

end Go.Proofs.YtiokdfkddcokoaaGreatDoor
