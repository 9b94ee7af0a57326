/- TopMarks: the plain law of joined marks; the walk. Conditions: none. -/
import Derived.Test.YtoafihjgpbcgbaaGreatSiWorks
import Derived.Test.YtoafihjgpbcgbaaGreatTopBlocks
import Derived.Test.YtoafihjgpbcgbaaGreatTopHash
import Derived.Test.YtoafihjgpbcgbaaGreatMark
namespace Go.Proofs.YtoafihjgpbcgbaaGreat
open Go.RowKit

theorem turn_add (a b x y : Int) : tRe (a + b) x y = tRe a (tRe b x y) (tIm b x y) ∧ tIm (a + b) x y = tIm a (tRe b x y) (tIm b x y) := by
  unfold tRe tIm
  have ha : a % 4 = 0 ∨ a % 4 = 1 ∨ a % 4 = 2 ∨ a % 4 = 3 := by omega
  have hb : b % 4 = 0 ∨ b % 4 = 1 ∨ b % 4 = 2 ∨ b % 4 = 3 := by omega
  rcases ha with ha | ha | ha | ha <;> rcases hb with hb | hb | hb | hb
  · have e : (a + b) % 4 = 0 := by omega
    simp [ha, hb, e]
  · have e : (a + b) % 4 = 1 := by omega
    simp [ha, hb, e]
  · have e : (a + b) % 4 = 2 := by omega
    simp [ha, hb, e]
  · have e : (a + b) % 4 = 3 := by omega
    simp [ha, hb, e]
  · have e : (a + b) % 4 = 1 := by omega
    simp [ha, hb, e]
  · have e : (a + b) % 4 = 2 := by omega
    simp [ha, hb, e]
  · have e : (a + b) % 4 = 3 := by omega
    simp [ha, hb, e]
  · have e : (a + b) % 4 = 0 := by omega
    simp [ha, hb, e]
  · have e : (a + b) % 4 = 2 := by omega
    simp [ha, hb, e]
  · have e : (a + b) % 4 = 3 := by omega
    simp [ha, hb, e]
  · have e : (a + b) % 4 = 0 := by omega
    simp [ha, hb, e]
  · have e : (a + b) % 4 = 1 := by omega
    simp [ha, hb, e]
  · have e : (a + b) % 4 = 3 := by omega
    simp [ha, hb, e]
  · have e : (a + b) % 4 = 0 := by omega
    simp [ha, hb, e]
  · have e : (a + b) % 4 = 1 := by omega
    simp [ha, hb, e]
  · have e : (a + b) % 4 = 2 := by omega
    simp [ha, hb, e]

theorem turn_sum (n x y u v : Int) : tRe n (x + u) (y + v) = tRe n x y + tRe n u v ∧ tIm n (x + u) (y + v) = tIm n x y + tIm n u v := by
  unfold tRe tIm
  split
  · omega
  split
  · omega
  split <;> omega

theorem of_shift : ∀ (l : List Int) (n off : Nat), ofRe (n + off) l = tRe n (ofRe off l) (ofIm off l) ∧ ofIm (n + off) l = tIm n (ofRe off l) (ofIm off l)
  | [], n, off => by
    simp only [ofRe, ofIm]
    unfold tRe tIm
    simp
  | x :: l, n, off => by
    have ih := of_shift l n (off + 1)
    have h1 := turn_add n off (low x) 0
    have h2 := turn_sum n (tRe off (low x) 0) (tIm off (low x) 0) (ofRe (off + 1) l) (ofIm (off + 1) l)
    simp only [ofRe, ofIm]
    rw [show n + off + 1 = n + (off + 1) by omega, ih.1, ih.2, h2.1, h2.2, Int.natCast_add, h1.1, h1.2]
    exact ⟨rfl, rfl⟩

theorem of_append : ∀ (l m : List Int) (off : Nat), ofRe off (l ++ m) = ofRe off l + ofRe (off + l.length) m ∧ ofIm off (l ++ m) = ofIm off l + ofIm (off + l.length) m
  | [], m, off => by simp [ofRe, ofIm]
  | x :: l, m, off => by
    have ih := of_append l m (off + 1)
    simp only [List.cons_append, ofRe, ofIm, List.length_cons]
    rw [ih.1, ih.2, show off + 1 + l.length = off + (l.length + 1) by omega]
    omega

theorem of_join (l m : List Int) : ofRe 0 (l ++ m) = ofRe 0 l + tRe l.length (ofRe 0 m) (ofIm 0 m) ∧ ofIm 0 (l ++ m) = ofIm 0 l + tIm l.length (ofRe 0 m) (ofIm 0 m) := by
  have h1 := of_append l m 0
  have h2 := of_shift m l.length 0
  rw [h1.1, h1.2, show 0 + l.length = l.length + 0 by omega, h2.1, h2.2]
  exact ⟨rfl, rfl⟩

theorem own_ints {w : World} {base : Nat} {e : TypeId} {v : Value} {n : Nat} {zs : List Int} {k : IntKind} (h : w.ownsRow base e 1 v n (zs.map (Value.int k))) :
    ∃ A cap, v = .slice A zs.length cap ∧ Rd w w.heap.size A (zs.map (Value.int k)) := by
  have hn : n = zs.length := by have := h.1; simp at this; omega
  subst hn
  rcases h.2 with ⟨rfl, h0⟩ | ⟨g, cap, cur, rfl, _⟩
  · exact ⟨none, 0, by rw [h0], rd_of_own (cap := 0) (n := 0) (by have := h; rwa [h0] at this)⟩
  · exact ⟨_, cap, rfl, rd_of_own h⟩

theorem few_block (w : World) (vs : List (Option Addr × Nat × Nat)) (t : TypeId) (hl : vs.length ≤ 60) :
    Calls Tryz.prog 4 #[.slice (some ⟨w.heap.size, 0, none⟩) vs.length vs.length] (w.alloc (.cells (vs.map fun v => .slice v.1 v.2.1 v.2.2).toArray t (0, 0))) fun e w' => e = .returned (.bool (decide (fewSum vs ≤ 1500))) ∧ w.alloc (.cells (vs.map fun v => .slice v.1 v.2.1 v.2.2).toArray t (0, 0)) = w' :=
  few_any _ _ vs _ (fun _ => ⟨w.heap.size, 0, rfl, by simp, fun j u hu => by rw [Nat.zero_add, blk_cell (heap_alloc_new _ _)]; simpa using hu⟩) hl

theorem of_cut (zs : List Int) {lo hi : Nat} (h : lo ≤ hi) (hh : hi ≤ zs.length) : ofRe 0 (zs.take hi) = ofRe 0 (zs.take lo) + tRe lo (ofRe 0 ((zs.drop lo).take (hi - lo))) (ofIm 0 ((zs.drop lo).take (hi - lo))) ∧ ofIm 0 (zs.take hi) = ofIm 0 (zs.take lo) + tIm lo (ofRe 0 ((zs.drop lo).take (hi - lo))) (ofIm 0 ((zs.drop lo).take (hi - lo))) := by
  have e : zs.take hi = zs.take lo ++ (zs.drop lo).take (hi - lo) := by
    rw [← List.take_append_drop lo (zs.take hi), List.take_take, Nat.min_eq_left h, List.drop_take]
  have hl : (zs.take lo).length = lo := by simp; omega
  have := of_join (zs.take lo) ((zs.drop lo).take (hi - lo))
  rw [hl] at this
  rw [e]
  exact this

theorem rdI_slice {w : World} {B b off : Nat} {zs : List Int} (h : RdI w B (some ⟨b, off, none⟩) zs) (lo n : Nat) (hb : b < B) (h0 : 0 < zs.length) : RdI w B (some ⟨b, off + lo, none⟩) ((zs.drop lo).take n) := fun _ => by
  obtain ⟨b', off', e, _, hc⟩ := h (by simpa using h0)
  injection e with e
  injection e with e1 e2
  subst e1 e2
  refine ⟨b, off + lo, rfl, hb, fun j u hj => ?_⟩
  rw [Nat.add_assoc]
  refine hc (lo + j) u ?_
  rw [List.map_take, List.map_drop, List.getElem?_take] at hj
  split at hj
  · rwa [List.getElem?_drop] at hj
  · cases hj

theorem changed_rd {w : World} {g cap t : Nat} {cu : Array Value} {zs : List Int} {j : Nat} {y : Int} (h : w.heap[g]? = some (.cells (cu.setIfInBounds j (.int .i64 y)) t (0, 0))) (_ : cu.size = cap * 1) (ht : cu.toList.take (zs.length * 1) = zs.map (Value.int .i64)) (hj : j < zs.length) :
    RdI w w.heap.size (some ⟨g, 0, none⟩) (zs.set j y) := fun _ => by
  refine ⟨g, 0, rfl, blk_lt h, fun i u hi => ?_⟩
  have hlen : zs.length ≤ cu.size := by
    have := congrArg List.length ht
    simp at this
    omega
  rw [Nat.zero_add, blk_cell h, Array.getElem?_setIfInBounds]
  rw [List.map_set, List.getElem?_set] at hi
  split at hi
  · rename_i e
    subst e
    rw [if_pos rfl, if_pos (by omega)]
    split at hi
    · exact hi
    · cases hi
  · rename_i e
    rw [if_neg e]
    rw [← ht, List.getElem?_take] at hi
    split at hi
    · simpa using hi
    · cases hi

set_option maxRecDepth 100000 in
set_option maxHeartbeats 2000000 in
theorem topMarks_any (A : Option Addr) (cap : Nat) (zs : List Int) (zn : Nat) (c : Int) (w : World) (hr : RdI w w.heap.size A zs) (hcap : zs.length ≤ cap) (hs : zn ≤ 255) (hc : -9223372036854775808 ≤ c ∧ c ≤ 9223372036854775807) :
    Calls Tryz.prog 3 #[.slice A zs.length cap, .int .u8 zn, .int .i64 c] w fun e w' => e = .returned (.bool true) ∧ Below w.heap.size w w' := by
  have hb0 : Below w.heap.size w (w.alloc (.cells #[.slice A zs.length cap] 22)) := (Below.refl _ _).alloc (Nat.le_refl _) _
  have C0 : Calls Tryz.prog 4 #[.slice (some ⟨w.heap.size, 0, none⟩) 1 1] (w.alloc (.cells #[.slice A zs.length cap] 22)) _ := few_block w [(A, zs.length, cap)] 22 (by simp)
  have HB0 := Lib.hid hb0
  have HR := Lib.hid hr
  by_cases hf : fewSum [(A, zs.length, cap)] ≤ 1500
  · rw [decide_eq_true hf] at C0
    have hz : zs.length ≤ 1500 := by simp only [fewSum] at hf; omega
    have HZ := Lib.hid hz
    have H0 := Lib.hid C0
    obtain ⟨s, hs1⟩ : ∃ s : Nat, (1 : Int) + zn = s := ⟨1 + zn, by omega⟩
    have hs2 : 1 ≤ s ∧ s ≤ 256 := by omega
    have C1 := Lib.hid (blocks_any zs.length s (w.alloc (.cells #[.slice A zs.length cap] 22)) hz hs2)
    have HC := Lib.hid hc
    have HS := Lib.hid hs
    clear hr hb0 C0 hf hz hc
    go_enter Tryz.func3, Tryz.ntmps3
    go_wp2_with fail
    (with_reducible refine H0.out.mono ?_)
    rintro e w1 ⟨rfl, rfl⟩
    clear H0
    go_wp2_with fail
    (with_reducible refine C1.out.mono ?_)
    rintro e w1 ⟨v, K, rfl, ho, hmin, hK, hJ, hb⟩
    obtain ⟨Ab, cb, rfl⟩ := own_slice ho
    have HRB := Lib.hid (rd_of_own ho)
    have HB1 := Lib.hid (HB0.out.trans (hb.mono HB0.out.size))
    have HM := Lib.hid hmin
    have HJ := Lib.hid hJ
    clear ho hb hmin hJ C1
    go_wp2_with fail
    go_loopw [7, 8, 24] (fun z at_ i wr => ∃ k l a b : Nat, k ≤ K ∧ i = .int .i64 k ∧ at_ = .int .i64 l ∧ l ≤ zs.length ∧ z = .complex .f64 a b ∧ Hid (l = min (k * s) zs.length) ∧ Hid (IsF a (ofRe 0 (zs.take l)) ∧ IsF b (ofIm 0 (zs.take l))) ∧ Hid (Below w1.heap.size w1 wr)) (fun _ _ i _ => K - (intOf i).toNat)
    case atStart => exact ⟨0, 0, 0, 0, Nat.zero_le _, rfl, rfl, Nat.zero_le _, rfl, Lib.hid (by simp), Lib.hid ⟨IsF.nought, IsF.nought⟩, Lib.hid (Below.refl _ _)⟩
    case round =>
      obtain ⟨k, l, a, b, hk, rfl, rfl, hl, rfl, HL, HF, HBr⟩ := hrel
      have hkl : (K : Int) ≤ 1500 := by have := HZ.out; omega
      by_cases hlt : k < K
      · have hln : l < zs.length := by have h1 := HJ.out k hlt; have h2 := HL.out; omega
        obtain ⟨g, off, rfl, hg, hcs⟩ := HRB.out (by rw [bcells_len]; omega)
        obtain ⟨h, hh⟩ : ∃ h : Nat, h = min ((k + 1) * s) zs.length := ⟨_, rfl⟩
        have hlh : l < h := by have h1 := HL.out; rw [Nat.succ_mul] at hh; omega
        have hhn : h ≤ zs.length := by omega
        have bc := bcells_at zs.length s K k hlt
        rw [← HL.out, ← hh] at bc
        have d1 : wr.cell? ⟨g, off + k * 2, none⟩ = some (.int .i64 l) := (HBr.out.cell (p := ⟨g, off + k * 2, none⟩) hg).trans (hcs _ _ bc.1)
        have d2 : wr.cell? ⟨g, off + k * 2 + 1, none⟩ = some (.int .i64 h) := (HBr.out.cell (p := ⟨g, off + k * 2 + 1, none⟩) hg).trans (hcs _ _ bc.2)
        obtain ⟨bb, ov, rfl, hbb, _⟩ := HR.out.at_ (by omega)
        have HH := Lib.hid hh
        obtain ⟨ms, hms⟩ : ∃ ms, ms = (zs.drop l).take (h - l) := ⟨_, rfl⟩
        have hml : ms.length = h - l := by rw [hms, List.length_take, List.length_drop]; omega
        have HBw := Lib.hid (HB1.out.trans (HBr.out.mono HB1.out.size))
        have HBW := Lib.hid (HBw.out.alloc HBw.out.size (.cells #[.int .i64 l, .int .i64 h] 29))
        have hrs := rdI_slice ((HR.out.below HBW.out).more HBW.out.size) l (h - l) (by have := HBW.out.size; omega) (by omega)
        rw [← hms] at hrs
        have C2 := markOf_any _ (cap - l) ms _ hrs (by have := HZ.out; omega)
        rw [hml] at C2
        have CUT := of_cut zs (lo := l) (hi := h) (by omega) hhn
        rw [← hms] at CUT
        have HN := Lib.hid (heap_alloc_new wr (.cells #[.int .i64 l, .int .i64 h] 29))
        have HC2 := Lib.hid C2
        have HCUT := Lib.hid CUT
        have BD1 := Lib.hid (And.intro (of_bd (zs.take l) 0) (of_bd ms 0))
        have HTL := Lib.hid (show (zs.take l).length ≤ 1500 ∧ ms.length ≤ 1500 by have := HZ.out; have := List.length_take_le' l zs; omega)
        clear hcs bc hh hms hml hrs C2 CUT
        go_wp2_with fail
        (with_reducible refine HC2.out.mono ?_)
        rintro e w2 ⟨⟨a', b', rfl, ha, hb'⟩, hb2⟩
        have HF2 := Lib.hid (And.intro ha hb')
        have d3 : w2.cell? ⟨wr.heap.size, 1, none⟩ = some (.int .i64 h) := blk_cell (blk_below HN.out hb2 (by simp)) 1
        have HBx := Lib.hid ((HBr.out.alloc HBr.out.size (.cells #[.int .i64 l, .int .i64 h] 29)).trans (hb2.mono (by have := HBr.out.size; simp; omega)))
        clear ha hb' hb2 HC2 d1 d2
        go_wp2_with fail
        (with_reducible refine (join_any a b a' b' _ _ _ _ l _ HF.out.1 HF.out.2 HF2.out.1 HF2.out.2 (by have := BD1.out; have := HTL.out; omega) (by have := BD1.out; have := HTL.out; omega) (by have := BD1.out; have := HTL.out; omega) (by have := BD1.out; have := HTL.out; omega)).mono ?_)
        rintro e w3 ⟨re, im, rfl, h1, h2, rfl⟩
        rw [← HCUT.out.1] at h1
        rw [← HCUT.out.2] at h2
        have HF3 := Lib.hid (And.intro h1 h2)
        clear h1 h2
        go_wp2_with fail
        go_roundw
        case rel => exact ⟨k + 1, h, re, im, by omega, by go_num, rfl, hhn, rfl, HH, HF3, HBx⟩
        case measure => simp [intOf]; omega
      · have hkK : k = K := by omega
        subst hkK
        have hln : l = zs.length := by have h1 := HM.out; have h2 := HL.out; omega
        have hF := HF.out
        rw [List.take_of_length_le (by omega)] at hF
        have HF1 := Lib.hid hF
        have HBw := Lib.hid (HB1.out.trans (HBr.out.mono HB1.out.size))
        clear hF HF HL
        have C3 := Lib.hid (markOf_any A cap zs wr ((HR.out.below HBw.out).more HBw.out.size) (by have := HZ.out; omega))
        go_wp2_with fail
        (with_reducible refine C3.out.mono ?_)
        rintro e w4 ⟨⟨a', b', rfl, ha, hb'⟩, hb2⟩
        have q1 := (feq_int HF1.out.1 ha).trans (decide_eq_true rfl)
        have q2 := (feq_int HF1.out.2 hb').trans (decide_eq_true rfl)
        have HB4 := Lib.hid (HBw.out.trans (hb2.mono HBw.out.size))
        clear ha hb' hb2 C3
        by_cases h0 : zs.length = 0
        · go_wp2_with fail
          (with_reducible refine (Si.works_any _).mono ?_)
          rintro e w5 ⟨rfl, hb5⟩
          have HB5 := Lib.hid (HB4.out.trans (hb5.mono HB4.out.size))
          clear hb5
          go_wp2
          go_ret
          exact ⟨rfl, HB5.out⟩
        · by_cases hc0 : c = 0
          · subst hc0
            go_wp2_with fail
            (with_reducible refine (Si.works_any _).mono ?_)
            rintro e w5 ⟨rfl, hb5⟩
            have HB5 := Lib.hid (HB4.out.trans (hb5.mono HB4.out.size))
            clear hb5
            go_wp2
            go_ret
            exact ⟨rfl, HB5.out⟩
          · have hcb : (c == 0) = false := by simpa using hc0
            have C5 := Lib.hid (clone_any A cap zs w4 ((HR.out.below HB4.out).more HB4.out.size) (by have := HZ.out; omega))
            go_wp2_with fail
            (with_reducible refine C5.out.mono ?_)
            rintro e w5 ⟨v, rfl, ho, hb5⟩
            have HB5 := Lib.hid (HB4.out.trans (hb5.mono HB4.out.size))
            rcases ho.2 with ⟨_, h1⟩ | ⟨g, cap5, cu, rfl, hg, hh, hn, hc5, hcz, hct⟩
            · exact absurd h1 h0
            · obtain ⟨j, hj⟩ : ∃ j, zn % zs.length = j := ⟨_, rfl⟩
              have hjl : j < zs.length := by rw [← hj]; exact Nat.mod_lt _ (by omega)
              obtain ⟨x, hx⟩ := get_some zs j hjl
              obtain ⟨y, hy⟩ : ∃ y, IntKind.i64.wrap (x + c) = y := ⟨_, rfl⟩
              have hcu : cu[j]? = some (.int .i64 x) := by
                have h1 : (cu.toList.take (zs.length * 1))[j]? = some (Value.int .i64 x) := by rw [hct]; simp [hx]
                rw [List.getElem?_take, if_pos (by omega)] at h1
                simpa using h1
              have e1 : w5.cell? ⟨g, j, none⟩ = some (.int .i64 x) := (blk_cell hh j).trans hcu
              have f1 : w5.frozen? ⟨g, j, none⟩ = false := blk_frozen hh j
              have r1 : (zn : Int).tmod (zs.length : Int) = (j : Int) := by rw [← hj]; exact (Int.ofNat_tmod zn zs.length).symm
              have hset := blk_set hh j (.int .i64 y)
              have HSET := Lib.hid hset
              have HX := Lib.hid (And.intro hx hy)
              have HCT := Lib.hid (And.intro hct hcz)
              have HW5 := Lib.hid (World.size_setCell w5 ⟨g, j, none⟩ (.int .i64 y))
              have HB6 := Lib.hid (HB5.out.setCell (p := ⟨g, j, none⟩) (Nat.le_trans HB4.out.size hg) (.int .i64 y))
              have HG := Lib.hid (Nat.lt_of_lt_of_le (blk_lt hh) (Nat.le_refl _))
              clear hcu hset hx hh hct hcz hc5 hn ho hb5 hj hg C5
              go_wp2_with fail
              (with_reducible refine (Si.works_any _).mono ?_)
              rintro e w6 ⟨rfl, hb6⟩
              have HBy := Lib.hid (HB6.out.trans (hb6.mono HB6.out.size))
              have hblk := blk_below HSET.out hb6 (by rw [HW5.out]; exact HG.out)
              obtain ⟨ys, hys⟩ : ∃ ys, ys = zs.set j y := ⟨_, rfl⟩
              have hyl : ys.length = zs.length := by rw [hys, List.length_set]
              have hry := changed_rd (cap := cap5) hblk HCT.out.2 HCT.out.1 hjl
              rw [← hys] at hry
              obtain ⟨u1, hu1⟩ : ∃ u, u = hz 1 ys % 18446744073709551616 := ⟨_, rfl⟩
              obtain ⟨u2, hu2⟩ : ∃ u, u = hz 1 zs % 18446744073709551616 := ⟨_, rfl⟩
              have hne : u1 ≠ u2 := by
                rw [hu1, hu2, hys]
                refine hz_differ HX.out.1 ?_ hc0 HC.out
                rw [← HX.out.2, IntKind.wrap_i64]
                omega
              have n1 : (u1 != u2) = true := by simpa using hne
              have n2 : (u1 == u1) = true := by simp
              have C7 := hash_any (some ⟨g, 0, none⟩) cap5 ys w6 hry (by rw [hyl]; have := HZ.out; omega)
              have C8 := refHash_any (some ⟨g, 0, none⟩) cap5 ys w6 hry (by rw [hyl]; have := HZ.out; omega)
              have C9 := hash_any A cap zs w6 ((HR.out.below HBy.out).more HBy.out.size) (by have := HZ.out; omega)
              rw [hyl, ← hu1] at C7 C8
              rw [← hu2] at C9
              have H7 := Lib.hid C7
              have H8 := Lib.hid C8
              have H9 := Lib.hid C9
              clear hblk hry hu1 hu2 hne C7 C8 C9 hb6 hys hyl e1 f1 r1
              go_wp2_with fail
              (with_reducible refine H7.out.mono ?_)
              rintro e w7 ⟨rfl, rfl⟩
              go_wp2_with fail
              (with_reducible refine H9.out.mono ?_)
              rintro e w7 ⟨rfl, rfl⟩
              go_wp2_with fail
              (with_reducible refine H7.out.mono ?_)
              rintro e w7 ⟨rfl, rfl⟩
              go_wp2_with fail
              (with_reducible refine H8.out.mono ?_)
              rintro e w7 ⟨rfl, rfl⟩
              go_wp2
              go_ret
              exact ⟨rfl, HBy.out⟩
  · rw [decide_eq_false hf] at C0
    have H0 := Lib.hid C0
    clear hr hb0 C0 hf
    go_enter Tryz.func3, Tryz.ntmps3
    go_wp2_with fail
    (with_reducible refine H0.out.mono ?_)
    rintro e w1 ⟨rfl, rfl⟩
    clear H0
    go_wp2_with fail
    (with_reducible refine (Si.works_any _).mono ?_)
    rintro e w5 ⟨rfl, hb5⟩
    have HB5 := Lib.hid (HB0.out.trans (hb5.mono HB0.out.size))
    clear hb5
    go_wp2
    go_ret
    exact ⟨rfl, HB5.out⟩

end Go.Proofs.YtoafihjgpbcgbaaGreat
