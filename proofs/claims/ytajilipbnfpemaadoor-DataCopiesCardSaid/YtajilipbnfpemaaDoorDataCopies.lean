/- Walks: DataCopies. Conditions: the table of powers of ten reads as listed. -/
import Derived.Test.YtajilipbnfpemaaDoorDataPicks
import Derived.Test.YtajilipbnfpemaaDoorDataClone
import Derived.Test.YtajilipbnfpemaaDoorDataTexts
namespace Go.Proofs.YtajilipbnfpemaaDoor
open Go.RowKit

theorem rdE_two {W : World} {g B : Nat} {ea eb : Ex} (hg : W.heap[g]? = some (.cells #[.slice ea.ax ea.xs.length ea.cx, .slice ea.ay ea.ys.length ea.cy, .slice eb.ax eb.xs.length eb.cx, .slice eb.ay eb.ys.length eb.cy] 46 (0, 0))) (hB : g < B) (ha : RdX W B ea) (hb : RdX W B eb) : RdE W B (some ⟨g, 0, none⟩) [ea, eb] := by
  refine ⟨fun _ => ⟨g, 0, rfl, hB, fun j u hu => ?_⟩, fun e he => ?_⟩
  · rw [blk_cell hg]
    simpa [exCells, Ex.cells, Nat.zero_add] using hu
  · simp at he
    rcases he with rfl | rfl
    · exact ha
    · exact hb

/-- Two examples in boxes of the call's own, the blocks n and n + 1. -/
structure Two (w : World) (ea eb : Ex) (W : World) : Prop where
  below : Below w.heap.size w W
  boxA : W.heap[w.heap.size]? = some (.cells #[.slice ea.ax ea.xs.length ea.cx, .slice ea.ay ea.ys.length ea.cy] 46 (0, 0))
  boxB : W.heap[w.heap.size + 1]? = some (.cells #[.slice eb.ax eb.xs.length eb.cx, .slice eb.ay eb.ys.length eb.cy] 46 (0, 0))

theorem Two.next {w W W' : World} {ea eb : Ex} (h : Two w ea eb W) (hb : Below W.heap.size W W') : Two w ea eb W' := ⟨h.below.trans (hb.mono h.below.size), blk_keep h.boxA hb, blk_keep h.boxB hb⟩
theorem Two.alloc {w W : World} {ea eb : Ex} (h : Two w ea eb W) (o : Obj) : Two w ea eb (W.alloc o) := h.next ((Below.refl _ _).alloc (Nat.le_refl _) o)
theorem Two.drewN {w W : World} {ea eb : Ex} (h : Two w ea eb W) (n : Nat) : Two w ea eb (W.drewN n) := ⟨below_drewN h.below n, h.boxA, h.boxB⟩
theorem Two.size {w W : World} {ea eb : Ex} (h : Two w ea eb W) : w.heap.size + 1 < W.heap.size := blk_lt h.boxB
theorem Two.within {w W W' : World} {ea eb : Ex} {lo hi : Nat} (h : Two w ea eb W) (hw : Within lo hi W W') (hlo : w.heap.size + 1 < lo) : Two w ea eb W' :=
  ⟨h.below.trans (hw.below (by omega)), (hw.block _ (.inl (by omega))).trans h.boxA, (hw.block _ (.inl hlo)).trans h.boxB⟩
theorem Two.cells {w W : World} {ea eb : Ex} (h : Two w ea eb W) : (W.cell? ⟨w.heap.size, 0, none⟩ = some (.slice ea.ax ea.xs.length ea.cx) ∧ W.cell? ⟨w.heap.size, 1, none⟩ = some (.slice ea.ay ea.ys.length ea.cy)) ∧ W.cell? ⟨w.heap.size + 1, 0, none⟩ = some (.slice eb.ax eb.xs.length eb.cx) ∧ W.cell? ⟨w.heap.size + 1, 1, none⟩ = some (.slice eb.ay eb.ys.length eb.cy) :=
  ⟨⟨blk_cell h.boxA 0, blk_cell h.boxA 1⟩, blk_cell h.boxB 0, blk_cell h.boxB 1⟩

theorem exFew_two {ea eb : Ex} (h : exFew [ea, eb] = true) : (ea.xs.length ≤ 600 ∧ ea.ys.length ≤ 600) ∧ eb.xs.length ≤ 600 ∧ eb.ys.length ≤ 600 := by
  have := exFew_mem h
  exact ⟨this.2 ea (by simp), this.2 eb (by simp)⟩

theorem text_same {ea eb : Ex} (ha : (∀ x ∈ ea.xs, In64 x) ∧ ∀ y ∈ ea.ys, In64 y) (hb : (∀ x ∈ eb.xs, In64 x) ∧ ∀ y ∈ eb.ys, In64 y) (p : (exTextS ea.xs ea.ys 4).2 = true) (q : (exTextS eb.xs eb.ys 4).2 = true) :
    (⟨(exTextS ea.xs ea.ys 4).1.toArray⟩ : ByteArray) = ⟨(exTextS eb.xs eb.ys 4).1.toArray⟩ ↔ sameEx ea eb = true := by
  have key : ∀ {e : Ex}, (exTextS e.xs e.ys 4).2 = true → (exTextS e.xs e.ys 4).1 = exText e.xs e.ys 4 ∧ e.xs ≠ [] ∧ e.ys ≠ [] := fun {e} h => by
    unfold exTextS at h ⊢
    split at h
    · rename_i h0
      rw [if_pos h0]
      exact ⟨rfl, fun h => by rw [h] at h0; exact absurd h0.1 (by decide), fun h => by rw [h] at h0; exact absurd h0.2 (by decide)⟩
    · simp at h
  obtain ⟨e1, n1, n2⟩ := key p
  obtain ⟨e2, m1, m2⟩ := key q
  rw [e1, e2]
  constructor
  · intro h
    have h' : exText ea.xs ea.ys 4 = exText eb.xs eb.ys 4 := by
      injection h with h
      simpa using h
    have := ex_inj (q := 4) (by decide) ⟨n1, n2, ha.1, ha.2⟩ ⟨m1, m2, hb.1, hb.2⟩ h'
    simp [sameEx, this.1, this.2]
  · intro h
    simp only [sameEx, Bool.and_eq_true, decide_eq_true_eq] at h
    rw [h.1, h.2]

set_option maxRecDepth 100000 in
set_option maxHeartbeats 4000000 in
theorem dataCopies_any (ea eb : Ex) (w : World) (hp : Pow w.heap.size w) (hra : RdX w w.heap.size ea) (hrb : RdX w w.heap.size eb) (hza : (∀ x ∈ ea.xs, In64 x) ∧ ∀ y ∈ ea.ys, In64 y) (hzb : (∀ x ∈ eb.xs, In64 x) ∧ ∀ y ∈ eb.ys, In64 y) :
    Calls Tryd.prog 8 #[ea.val, eb.val] w fun e w' => e = .returned (.bool true) ∧ Below w.heap.size w w' := by
  have HA := Lib.hid (fun W (hb : Below w.heap.size w W) => alive10_any w.heap.size W (hp.on hb) hb.size)
  have RA := fun W (hT : Two w ea eb W) => (hra.below hT.below).more hT.below.size
  have RB := fun W (hT : Two w ea eb W) => (hrb.below hT.below).more hT.below.size
  have ST := text_same hza hzb
  have HT0 : Two w ea eb ((w.alloc (.cells #[.slice ea.ax ea.xs.length ea.cx, .slice ea.ay ea.ys.length ea.cy] 46)).alloc (.cells #[.slice eb.ax eb.xs.length eb.cx, .slice eb.ay eb.ys.length eb.cy] 46)) :=
    ⟨((Below.refl w.heap.size w).alloc (Nat.le_refl _) _).alloc (by simp) _, blk_alloc (heap_alloc_new w _) _, newAt (by simp) _⟩
  have HE := fun W (hT : Two w ea eb W) => rdE_two (ea := ea) (eb := eb) (heap_alloc_new W (.cells #[.slice ea.ax ea.xs.length ea.cx, .slice ea.ay ea.ys.length ea.cy, .slice eb.ax eb.xs.length eb.cx, .slice eb.ay eb.ys.length eb.cy] 46)) (Nat.lt_of_lt_of_eq (Nat.lt_succ_self _) (World.size_alloc W _).symm) (RA _ (hT.alloc _)) (RB _ (hT.alloc _))
  have F := dataFew_any _ 2 [ea, eb] _ (HE _ HT0) (by simp)
  cases hf : exFew [ea, eb]
  · rw [hf] at F
    have HF := Lib.hid F
    have HT := Lib.hid (HT0.alloc (.cells #[.slice ea.ax ea.xs.length ea.cx, .slice ea.ay ea.ys.length ea.cy, .slice eb.ax eb.xs.length eb.cx, .slice eb.ay eb.ys.length eb.cy] 46)).below
    clear F hf hp hra hrb hza hzb RA RB ST HT0 HE
    obtain ⟨ax, xs, cx, ay, ys, cy⟩ := ea
    obtain ⟨bx, us, dx, by', vs, dy⟩ := eb
    unfold Ex.val
    dsimp only at HF HT ⊢
    simp only [World.size_alloc, List.length_cons, List.length_nil, Nat.zero_add] at HF
    go_enter Tryd.func8, Tryd.ntmps8
    go_wp2_with fail
    (with_reducible refine HF.out.mono ?_)
    rintro e w1 ⟨rfl, n, rfl⟩
    go_wp2_with fail
    (with_reducible refine (HA.out _ (below_drewN HT.out n)).mono ?_)
    rintro e w2 ⟨rfl, hb2⟩
    have HB2 := Lib.hid ((below_drewN HT.out n).trans (hb2.mono HT.out.size))
    clear hb2
    go_wp2_with fail
    go_ret
    exact ⟨rfl, HB2.out⟩
  · rw [hf] at F
    have HF := Lib.hid F
    have hle := exFew_two hf
    have HS := Lib.hid (fun W (hT : Two w ea eb W) => sameEx_any ea eb W (RA W hT) (RB W hT))
    have HSD := Lib.hid (fun W (hT : Two w ea eb W) => sameData_any ea eb W (RA W hT) (RB W hT))
    have HSA := Lib.hid (fun W (hT : Two w ea eb W) => sameData_any ea ea W (RA W hT) (RA W hT))
    have haa : sameEx ea ea = true := by simp [sameEx]
    rw [haa] at HSA
    have hxa := exText_len (q := 4) (by decide) hza.1 hza.2 hle.1.1 hle.1.2
    have hxb := exText_len (q := 4) (by decide) hzb.1 hzb.2 hle.2.1 hle.2.2
    have HXA := Lib.hid (show ∀ W, Two w ea eb W → Calls Tryd.prog 36 #[ea.val, .int .i64 4] W _ from fun W hT => dataText_yes ea 4 (by decide) hza (by omega) (by omega) w.heap.size W (hp.on hT.below) hT.below.size (RA W hT))
    have HXB := Lib.hid (show ∀ W, Two w ea eb W → Calls Tryd.prog 36 #[eb.val, .int .i64 4] W _ from fun W hT => dataText_yes eb 4 (by decide) hzb (by omega) (by omega) w.heap.size W (hp.on hT.below) hT.below.size (RB W hT))
    have hle' : ∀ ex ∈ [ea, eb], ex.xs.length ≤ 1099511627776 ∧ ex.ys.length ≤ 1099511627776 := fun ex hex => by
      simp at hex
      rcases hex with rfl | rfl <;> omega
    have HC := Lib.hid (fun W (hT : Two w ea eb W) => refClone_any _ 2 [ea, eb] _ (HE W hT) (by simp) hle')
    have HLE := Lib.hid hle'
    have HEE := Lib.hid HE
    have HT1 := Lib.hid (HT0.alloc (.cells #[.slice ea.ax ea.xs.length ea.cx, .slice ea.ay ea.ys.length ea.cy, .slice eb.ax eb.xs.length eb.cx, .slice eb.ay eb.ys.length eb.cy] 46))
    have HST := Lib.hid ST
    clear F hf hp hra hrb hza hzb RA RB ST HT0 HE hle haa hxa hxb hle'
    obtain ⟨sm, hsm⟩ : ∃ b, sameEx ea eb = b := ⟨_, rfl⟩
    rw [hsm] at HS HSD HST
    clear hsm
    obtain ⟨s, hs⟩ : ∃ s : ByteArray, ⟨(exTextS ea.xs ea.ys 4).1.toArray⟩ = s := ⟨_, rfl⟩
    obtain ⟨t, ht⟩ : ∃ s : ByteArray, ⟨(exTextS eb.xs eb.ys 4).1.toArray⟩ = s := ⟨_, rfl⟩
    rw [hs] at HXA HST
    rw [ht] at HXB HST
    clear hs ht
    generalize (exTextS ea.xs ea.ys 4).2 = p at HXA HST
    generalize (exTextS eb.xs eb.ys 4).2 = q at HXB HST
    obtain ⟨ax, xs, cx, ay, ys, cy⟩ := ea
    obtain ⟨bx, us, dx, by', vs, dy⟩ := eb
    unfold Ex.val at HS HSD HSA HXA HXB ⊢
    dsimp only at HF HS HSD HSA HXA HXB HC HEE HT1 ⊢
    simp only [World.size_alloc, List.length_cons, List.length_nil, Nat.zero_add] at HF HC
    go_enter Tryd.func8, Tryd.ntmps8
    go_wp2_with fail
    (with_reducible refine HF.out.mono ?_)
    rintro e w1 ⟨rfl, n, rfl⟩
    have HT2 := Lib.hid (HT1.out.drewN n)
    obtain ⟨⟨a0, a1⟩, b0, b1⟩ := HT2.out.cells
    dsimp only at a0 a1 b0 b1
    clear HT1 HF
    go_wp2_with fail
    (with_reducible refine (HS.out _ HT2.out).mono ?_)
    rintro e w2 ⟨rfl, hb⟩
    have HT3 := Lib.hid (HT2.out.next hb)
    clear hb HT2 a0 a1 b0 b1 HS
    obtain ⟨⟨a0, a1⟩, b0, b1⟩ := HT3.out.cells
    dsimp only at a0 a1 b0 b1
    go_wp2_with fail
    (with_reducible refine (HXA.out _ HT3.out).mono ?_)
    rintro e w3 ⟨rfl, hb⟩
    have HT4 := Lib.hid (HT3.out.next hb)
    clear hb HT3 a0 a1 b0 b1 HXA
    obtain ⟨⟨a0, a1⟩, b0, b1⟩ := HT4.out.cells
    dsimp only at a0 a1 b0 b1
    go_wp2_with fail
    (with_reducible refine (HXB.out _ HT4.out).mono ?_)
    rintro e w4 ⟨rfl, hb⟩
    have HT5 := Lib.hid (HT4.out.next hb)
    clear hb HT4 a0 a1 b0 b1 HXB
    obtain ⟨⟨a0, a1⟩, b0, b1⟩ := HT5.out.cells
    dsimp only at a0 a1 b0 b1
    go_wp2_with fail
    (with_reducible refine (HC.out _ HT5.out).mono ?_)
    rintro e w5 ⟨v0, L, rfl, hC, hb⟩
    have HT6 := Lib.hid ((HT5.out.alloc (.cells #[.slice ax xs.length cx, .slice ay ys.length cy, .slice bx us.length dx, .slice by' vs.length dy] 46)).next (by rw [World.size_alloc]; exact hb))
    have HLO := Lib.hid (show w.heap.size + 1 < w4.heap.size + 1 by have := HT5.out.size; omega)
    obtain ⟨lo, hlo⟩ : ∃ n, w4.heap.size + 1 = n := ⟨_, rfl⟩
    rw [hlo] at hC HLO
    obtain ⟨A0, cap0, rfl⟩ := own_slice hC.2.1
    have hL2 : L.length = 2 := hC.1
    have HCC := Lib.hid hC
    have HDE := Lib.hid (rdE_of_copies hC rfl HLE.out)
    have HEL := Lib.hid (show ∀ ex ∈ L, ex.xs.length ≤ 1099511627776 ∧ ex.ys.length ≤ 1099511627776 from fun c hc => by
      obtain ⟨i, hi⟩ := List.getElem?_of_mem hc
      obtain ⟨x, hx⟩ := get_some _ i (by rw [← hC.1]; exact (List.getElem?_eq_some_iff.1 hi).1)
      have h4 := hC.2.2 i x c hx hi
      rw [h4.1, h4.2.1]
      exact HLE.out x (List.mem_of_getElem? hx))
    have HD := Lib.hid (dataClone_any A0 cap0 L w5 HDE.out (by omega) HEL.out)
    have HL2 := Lib.hid hL2
    clear hb hC hlo hL2 HT5 a0 a1 b0 b1 HC HDE
    go_wp2_with fail
    (with_reducible refine HD.out.mono ?_)
    rintro e w6 ⟨v1, K, rfl, hK, hb⟩
    have HT7 := Lib.hid (HT6.out.next hb)
    obtain ⟨A1, cap1, rfl⟩ := own_slice hK.2.1
    have HHJ := Lib.hid hb
    have HKK := Lib.hid hK
    have HKL := Lib.hid (show K.length = 2 by rw [hK.1, HL2.out])
    have hL0 : (L.length : Int) ≤ 60 := by have := HL2.out; omega
    have HSTT := Lib.hid (show BumpK lo w5.heap.size A0 L w6 w6 from ⟨Within.refl _ _ _, fun h0 => bump_start HCC.out h0 HHJ.out⟩)
    clear hb hK HD HT6
    go_wp2_with fail
    go_loopw [42] (fun i wr => ∃ k : Nat, k ≤ L.length ∧ i = .int .i64 k ∧ Hid (BumpK lo w5.heap.size A0 L w6 wr)) (fun i _ => L.length - (intOf i).toNat)
    case atStart => exact ⟨0, Nat.zero_le _, rfl, HSTT⟩
    case round =>
      obtain ⟨k, hk, rfl, HBm⟩ := hrel
      by_cases hlt : k < L.length
      · obtain ⟨g, rfl, hbm⟩ := HBm.out.2 (by omega)
        obtain ⟨ex, hex⟩ := get_some L k hlt
        have HMX := Lib.hid (List.mem_of_getElem? hex)
        have hel := HEL.out ex (List.mem_of_getElem? hex)
        obtain ⟨px, ps, pc, py, qs, qc⟩ := ex
        dsimp only at hel
        have HB0 := Lib.hid hbm
        obtain ⟨c1, c2⟩ := hbm.outer k _ hex
        dsimp only at c1 c2
        have HEX := Lib.hid hex
        have h0 : (0 : Int) ≤ (k : Int) := by omega
        have h1 : (k : Int) < (L.length : Int) := by omega
        have hxl : (ps.length : Int) ≤ 1099511627776 := by omega
        have hyl : (qs.length : Int) ≤ 1099511627776 := by omega
        clear hbm hex HBm HSTT hel
        go_wp2_with fail
        clear c1 c2
        go_loopw [51] (fun i wi => ∃ j : Nat, j ≤ ps.length ∧ i = .int .i64 j ∧ Hid (Bump lo w5.heap.size g L w6 wi)) (fun i _ => ps.length - (intOf i).toNat)
        case atStart => exact ⟨0, Nat.zero_le _, rfl, HB0⟩
        case round =>
          obtain ⟨j, hj, rfl, HBi⟩ := hrel
          clear HB0
          obtain ⟨d1, d2⟩ := HBi.out.outer k _ HEX.out
          dsimp only at d1 d2
          by_cases hjl : j < ps.length
          · obtain ⟨b, off, hax, hlo, hbg, hhi, hcell⟩ := (HBi.out.nums _ HMX.out).1 (by dsimp only; omega)
            dsimp only at hax hcell
            subst hax
            obtain ⟨⟨z, hz⟩, hfz⟩ := hcell j hjl
            have hj0 : (0 : Int) ≤ (j : Int) := by omega
            have hj1 : (j : Int) < (ps.length : Int) := by omega
            clear hcell
            go_wp2_with fail
            go_roundw
            case rel => exact ⟨j + 1, by omega, by go_num, Lib.hid (HBi.out.set ⟨hlo, hhi⟩ hbg _ _)⟩
            case measure => simp [intOf]; omega
          · have hjg : ps.length ≤ j := by omega
            go_wp2_with fail
            clear d1 d2
            go_loopw [71] (fun i wi => ∃ j : Nat, j ≤ qs.length ∧ i = .int .i64 j ∧ Hid (Bump lo w5.heap.size g L w6 wi)) (fun i _ => qs.length - (intOf i).toNat)
            case atStart => exact ⟨0, Nat.zero_le _, rfl, HBi⟩
            case round =>
              obtain ⟨m, hm', rfl, HBy⟩ := hrel
              clear HBi
              obtain ⟨d1, d2⟩ := HBy.out.outer k _ HEX.out
              dsimp only at d1 d2
              by_cases hml : m < qs.length
              · obtain ⟨b, off, hay, hlo, hbg, hhi, hcell⟩ := (HBy.out.nums _ HMX.out).2 (by dsimp only; omega)
                dsimp only at hay hcell
                subst hay
                obtain ⟨⟨z, hz⟩, hfz⟩ := hcell m hml
                have hj0 : (0 : Int) ≤ (m : Int) := by omega
                have hj1 : (m : Int) < (qs.length : Int) := by omega
                clear hcell
                go_wp2_with fail
                go_roundw
                case rel => exact ⟨m + 1, by omega, by go_num, Lib.hid (HBy.out.set ⟨hlo, hhi⟩ hbg _ _)⟩
                case measure => simp [intOf]; omega
              · have hmg : qs.length ≤ m := by omega
                go_wp2_with fail
                go_roundw
                case rel => exact ⟨k + 1, by omega, by go_num, Lib.hid ⟨HBy.out.within, fun _ => ⟨g, rfl, HBy.out⟩⟩⟩
                case measure => simp [intOf]; omega
      · have hge : L.length ≤ k := by omega
        have HT8 := Lib.hid (HT7.out.within HBm.out.1 HLO.out)
        have HKW := Lib.hid (HKK.out.within HBm.out.1 (Nat.le_refl _))
        have hbb : (sm == sm) = true := by simp
        have hKS := (same_of_copies HKK.out).trans (same_of_copies HCC.out)
        have HKS := Lib.hid hKS
        clear HBm HKK HSTT HHJ HCC hKS
        go_wp2_with fail
        (with_reducible refine (HA.out _ HT8.out.below).mono ?_)
        rintro e w8 ⟨rfl, hb⟩
        have HT9 := Lib.hid (HT8.out.next hb)
        have HK9 := Lib.hid (HKW.out.below hb)
        clear hb HT8 HKW
        obtain ⟨⟨a0, a1⟩, b0, b1⟩ := HT9.out.cells
        dsimp only at a0 a1 b0 b1
        go_wp2_with fail
        (with_reducible refine (HSD.out _ HT9.out).mono ?_)
        rintro e w9 ⟨rfl, hb⟩
        have HT10 := Lib.hid (HT9.out.next hb)
        have HK10 := Lib.hid (HK9.out.below hb)
        clear hb HT9 HK9 a0 a1 b0 b1
        obtain ⟨⟨a0, a1⟩, b0, b1⟩ := HT10.out.cells
        dsimp only at a0 a1 b0 b1
        go_wp2_with fail
        (with_reducible refine (HSA.out _ HT10.out).mono ?_)
        rintro e w10 ⟨rfl, hb⟩
        have HT11 := Lib.hid (HT10.out.next hb)
        have HK11 := Lib.hid (HK10.out.below hb)
        have h1 := HEE.out _ HT11.out
        have h2 := rdE_of_copies (HK11.out.alloc (.cells #[.slice ax xs.length cx, .slice ay ys.length cy, .slice bx us.length dx, .slice by' vs.length dy] 46)) rfl HEL.out
        have HSL := Lib.hid (sameAll_yes A1 _ cap1 2 K _ _ h2 h1 (by have := HKL.out; omega) HKS.out)
        have hkl := HKL.out
        simp only [List.length_cons, List.length_nil, Nat.zero_add] at HSL
        clear hb HT10 HK10 a0 a1 b0 b1 h1 h2
        obtain ⟨⟨a0, a1⟩, b0, b1⟩ := HT11.out.cells
        dsimp only at a0 a1 b0 b1
        clear hkl
        go_wp2_with fail
        (with_reducible refine HSL.out.mono ?_)
        rintro e w11 ⟨rfl, hb⟩
        have HB12 := Lib.hid (HT11.out.below.trans (((Below.refl _ _).alloc (Nat.le_refl _) _).trans (hb.mono (by simp)) |>.mono HT11.out.below.size))
        clear hb HT11 a0 a1 b0 b1
        cases p
        · go_wp2_with fail
          go_ret
          exact ⟨rfl, HB12.out⟩
        · cases q
          · go_wp2_with fail
            go_ret
            exact ⟨rfl, HB12.out⟩
          · have hst := HST.out rfl rfl
            cases sm
            · have hne : s ≠ t := fun e => absurd (hst.1 e) (by decide)
              have f1 : (s.toList == t.toList) = false := beq_eq_false_iff_ne.2 fun h => hne (by
                rw [Go.ByteArray.toList_eq, Go.ByteArray.toList_eq] at h
                obtain ⟨a⟩ := s
                obtain ⟨b⟩ := t
                exact congrArg ByteArray.mk (Array.toList_inj.1 h))
              clear hst hne
              go_wp2_with fail
              go_ret
              exact ⟨rfl, HB12.out⟩
            · obtain rfl := hst.2 rfl
              clear hst
              go_wp2_with fail
              go_ret
              exact ⟨by simp, HB12.out⟩

end Go.Proofs.YtajilipbnfpemaaDoor
