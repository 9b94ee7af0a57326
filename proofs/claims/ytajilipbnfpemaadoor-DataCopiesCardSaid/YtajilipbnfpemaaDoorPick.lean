/- Walks: data.Pick. Conditions: none. -/
import Derived.Test.YtajilipbnfpemaaDoorCopied
namespace Go.Proofs.YtajilipbnfpemaaDoor
open Go.RowKit

theorem CopyOf.set2 {B g : Nat} {w : World} {e c : Ex} {cs : Array Value} (h : CopyOf B w e c) (hg : w.heap[g]? = some (.cells cs 46 (0, 0))) {p q : Addr} (hp : p.block = g) (hq : q.block = g) (u u' : Value) : CopyOf B ((w.setCell p u).setCell q u') e c :=
  ⟨h.1, h.2.1, own_set2 h.2.2.1 hg (by decide) hp hq u u', own_set2 h.2.2.2 hg (by decide) hp hq u u'⟩

theorem size_one (w : World) (o : Obj) : (w.alloc o).heap.size = w.heap.size + 1 := by simp

set_option maxRecDepth 100000 in
set_option maxHeartbeats 1000000 in
theorem pickOne_yes (i : Int) (A : Option Addr) (cap : Nat) (l : List Ex) (ex : Ex) (bq : Nat) (w : World) (hr : RdE w w.heap.size A l) (hm : l.length ≤ 9223372036854775807) (h0 : 0 ≤ i) (hi : l[i.toNat]? = some ex)
    (hl : ex.xs.length ≤ 1099511627776 ∧ ex.ys.length ≤ 1099511627776) (hc : w.cell? ⟨bq, 0, none⟩ = some (.slice A l.length cap)) :
    Calls Tryd.prog 54 #[.int .i64 i, .pointer (some ⟨bq, 0, none⟩)] w fun e w' => ∃ c : Ex, e = .returned (.tuple #[c.val, .bool true]) ∧ CopyOf w.heap.size w' ex c ∧ Below w.heap.size w w' := by
  obtain ⟨n, rfl⟩ := Int.eq_ofNat_of_zero_le h0
  rw [Int.toNat_natCast] at hi
  have hn : n < l.length := (List.getElem?_eq_some_iff.1 hi).1
  obtain ⟨b, off, rfl, hb, hcs⟩ := hr.at_ (by omega)
  have hX := hr.2 ex (List.mem_of_getElem? hi)
  have HC := Lib.hid (fun W (hW : Below w.heap.size w W) => copied_any ex W ((hX.below hW).more hW.size) hl)
  unfold Ex.val at HC
  obtain ⟨c1, c2⟩ := hcs n ex hi
  have HB := Lib.hid ((Below.refl w.heap.size w).alloc (Nat.le_refl _) (.cells #[.slice none 0 0, .slice none 0 0] 46))
  have HF := Lib.hid (heap_alloc_new w (.cells #[.slice none 0 0, .slice none 0 0] 46))
  clear hcs hX hr hi hl
  have hn' : (n : Int) < (l.length : Int) := by omega
  have hlt := World.block_lt_of_cell? w _ hc
  dsimp only at hlt
  go_enter Tryd.func54, Tryd.ntmps54
  go_wp2_with fail
  (with_reducible refine (HC.out _ HB.out).mono ?_)
  rintro e w1 ⟨⟨A1, xs1, k1, A2, xs2, k2⟩, rfl, hcp, hb1⟩
  have HO1 := Lib.hid (hcp.more HB.out.size)
  have HB1 := Lib.hid (HB.out.trans (hb1.mono HB.out.size))
  have HF1 := Lib.hid (blk_keep HF.out hb1)
  have F0 := blk_cell HF1.out 0
  have F1 := blk_cell HF1.out 1
  have Z0 := blk_frozen HF1.out 0
  have Z1 := blk_frozen HF1.out 1
  clear hcp hb1 HB HF HC
  dsimp only
  go_wp2_with fail
  have K := blk_set (blk_set HF1.out 0 (.slice A1 xs1.length k1)) 1 (.slice A2 xs2.length k2)
  have K0 := blk_cell K 0
  have K1 := blk_cell K 1
  have HO2 := Lib.hid (HO1.out.set2 HF1.out (p := ⟨w.heap.size, 0, none⟩) (q := ⟨w.heap.size, 1, none⟩) rfl rfl (.slice A1 xs1.length k1) (.slice A2 xs2.length k2))
  have HB3 := Lib.hid ((HB1.out.setCell (p := ⟨w.heap.size, 0, none⟩) (Nat.le_refl _) (.slice A1 xs1.length k1)).setCell (p := ⟨w.heap.size, 1, none⟩) (Nat.le_refl _) (.slice A2 xs2.length k2))
  clear F0 F1 Z0 Z1 HB1 HF1 HO1 K
  refine bodyPost_ret (v := .tuple #[.agg #[.slice A1 xs1.length k1, .slice A2 xs2.length k2], .bool true]) ?_ rfl ⟨⟨A1, xs1, k1, A2, xs2, k2⟩, rfl, HO2.out, HB3.out⟩
  simp [results, Tryd.results54, go_sem, K0, K1]

set_option maxRecDepth 100000 in
set_option maxHeartbeats 1000000 in
theorem pickOne_no (i : Int) (A : Option Addr) (cap len : Nat) (bq : Nat) (w : World) (hm : len ≤ 9223372036854775807) (hi : i < 0 ∨ (len : Int) ≤ i) (hc : w.cell? ⟨bq, 0, none⟩ = some (.slice A len cap)) :
    Calls Tryd.prog 54 #[.int .i64 i, .pointer (some ⟨bq, 0, none⟩)] w fun e w' => e = .returned (.tuple #[.agg #[.slice none 0 0, .slice none 0 0], .bool false]) ∧ Below w.heap.size w w' := by
  have hlt := World.block_lt_of_cell? w _ hc
  dsimp only at hlt
  have HF := Lib.hid (heap_alloc_new w (.cells #[.slice none 0 0, .slice none 0 0] 46))
  have HB3 := Lib.hid (((Below.refl w.heap.size w).alloc (Nat.le_refl _) (.cells #[.slice none 0 0, .slice none 0 0] 46)))
  rcases hi with hi | hi
  · go_enter Tryd.func54, Tryd.ntmps54
    go_wp2_with fail
    refine bodyPost_ret (v := .tuple #[.agg #[.slice none 0 0, .slice none 0 0], .bool false]) ?_ rfl ⟨rfl, HB3.out⟩
    simp [results, Tryd.results54, go_sem]
  · have h0 : ¬ i < 0 := by omega
    obtain ⟨n, rfl⟩ := Int.eq_ofNat_of_zero_le (a := i) (by omega)
    have hi' : len ≤ n := by omega
    go_enter Tryd.func54, Tryd.ntmps54
    go_wp2_with fail
    refine bodyPost_ret (v := .tuple #[.agg #[.slice none 0 0, .slice none 0 0], .bool false]) ?_ rfl ⟨rfl, HB3.out⟩
    simp [results, Tryd.results54, go_sem]

/-- What is picked: the examples p at the indices idx of l, up to the first wrong one. -/
def Sel (l : List Ex) (idx : List Int) (p : List Ex) : Prop := p.length ≤ idx.length ∧ (∀ (k : Nat) (i : Int) (e : Ex), idx[k]? = some i → p[k]? = some e → 0 ≤ i ∧ l[i.toNat]? = some e) ∧ ∀ i : Int, idx[p.length]? = some i → i < 0 ∨ (l.length : Int) ≤ i

theorem sel_of (l : List Ex) : ∀ idx : List Int, ∃ p, Sel l idx p
  | [] => ⟨[], by simp, fun k i e h => by simp at h, fun i h => by simp at h⟩
  | i :: idx => by
    by_cases h : 0 ≤ i ∧ i < l.length
    · obtain ⟨p, h1, h2, h3⟩ := sel_of l idx
      obtain ⟨e, he⟩ := get_some l i.toNat (by omega)
      refine ⟨e :: p, by simpa using h1, fun k j x hj hx => ?_, fun j hj => h3 j (by simpa using hj)⟩
      cases k with
      | zero =>
        simp at hj hx
        subst hj hx
        exact ⟨h.1, he⟩
      | succ k => exact h2 k j x (by simpa using hj) (by simpa using hx)
    · refine ⟨[], by simp, fun k j x hj hx => by simp at hx, fun j hj => ?_⟩
      simp at hj
      subst hj
      omega
/-- What Pick leaves: copies of all that were asked for, or none. -/
def PickedC (idx : List Int) (p : List Ex) (w : World) (e : Ending) (w' : World) : Prop :=
  (p.length = idx.length → ∃ v L, e = .returned (.tuple #[v, .bool true]) ∧ Copies w.heap.size w' v p L) ∧ (p.length < idx.length → e = .returned (.tuple #[.slice none 0 0, .bool false])) ∧ Below w.heap.size w w'
/-- Copies of the first k examples. -/
def CopiesK (B : Nat) (wr : World) (v : Value) (p : List Ex) (k : Nat) : Prop := ∃ L, Copies B wr v (p.take k) L

set_option maxRecDepth 100000 in
set_option maxHeartbeats 2000000 in
theorem mappedPick_any (Ai : Option Addr) (capi : Nat) (idx : List Int) (A : Option Addr) (cap : Nat) (l p : List Ex) (bq : Nat) (w : World) (hidx : RdI w w.heap.size Ai idx) (hil : idx.length ≤ 100000) (hr : RdE w w.heap.size A l) (hm : l.length ≤ 9223372036854775807)
    (hsel : Sel l idx p) (hl : ∀ ex ∈ l, ex.xs.length ≤ 1099511627776 ∧ ex.ys.length ≤ 1099511627776) (hc : w.cell? ⟨bq, 0, none⟩ = some (.slice A l.length cap)) :
    Calls Tryd.prog 53 #[.slice Ai idx.length capi, .func (.func 54) #[] #[.pointer (some ⟨bq, 0, none⟩)]] w
      (PickedC idx p w) := by
  obtain ⟨i0, hi, hz0, hz1, hz2⟩ := info_parts infoEx
  have HI := Lib.hid (And.intro hi (And.intro hz0 (And.intro hz1 hz2)))
  have hlt := World.block_lt_of_cell? w _ hc
  dsimp only at hlt
  have HT := Lib.hid (fun (k : Nat) (i : Int) (ex : Ex) (h1 : idx[k]? = some i) (h2 : p[k]? = some ex) W (hW : Below w.heap.size w W) =>
    let hs := hsel.2.1 k i ex h1 h2
    pickOne_yes i A cap l ex bq W ((hr.below hW).more hW.size) hm hs.1 hs.2 (hl ex (List.mem_of_getElem? hs.2)) ((hW.cell (p := ⟨bq, 0, none⟩) hlt).trans hc))
  have HN := Lib.hid (fun (i : Int) (h1 : idx[p.length]? = some i) W (hW : Below w.heap.size w W) => pickOne_no i A cap l.length bq W hm (hsel.2.2 i h1) ((hW.cell (p := ⟨bq, 0, none⟩) hlt).trans hc))
  have HP := Lib.hid hsel.1
  have HR := Lib.hid hidx
  have HL := Lib.hid hil
  clear hi hz0 hz1 hz2 hr hl hc hlt hsel hidx hil hm
  go_enter Tryd.func53, Tryd.ntmps53
  go_wp2_with fail
  go_loopw [6, 13] (fun v i wr => ∃ k : Nat, k ≤ p.length ∧ i = .int .i64 k ∧ Hid (CopiesK w.heap.size wr v p k) ∧ Hid (Below w.heap.size w wr)) (fun _ i _ => idx.length - (intOf i).toNat)
  case atStart => exact ⟨0, Nat.zero_le _, rfl, Lib.hid ⟨[], by simpa using Copies.nil_ w.heap.size w⟩, Lib.hid (Below.refl _ _)⟩
  case round =>
    obtain ⟨k, hk, rfl, HOk, HBk⟩ := hrel
    have hzl : (idx.length : Int) ≤ 100000 := by have h := HL.out; omega
    by_cases hlp : k < p.length
    · have hlt : k < idx.length := by have := HP.out; omega
      obtain ⟨b, off, rfl, hb, hcz⟩ := HR.out.at_ (by omega)
      obtain ⟨x, hx⟩ := get_some idx k hlt
      obtain ⟨ex, hex⟩ := get_some p k hlp
      have c1 : wr.cell? ⟨b, off + k, none⟩ = some (.int .i64 x) := (HBk.out.cell (p := ⟨b, off + k, none⟩) hb).trans (hcz k x hx)
      have HTx := Lib.hid (HT.out k x ex hx hex _ HBk.out)
      have HEX := Lib.hid hex
      obtain ⟨L, hL⟩ := HOk.out
      have HLk := Lib.hid (show L.length = k by rw [hL.1, List.length_take]; have := HP.out; omega)
      have HLL := Lib.hid hL
      clear hcz hx hex hL HOk
      go_wp2_with fail
      (with_reducible refine HTx.out.mono ?_)
      rintro e w1 ⟨⟨A1, xs1, k1, A2, xs2, k2⟩, rfl, hcp, hb1⟩
      have HB1 := Lib.hid (HBk.out.trans (hb1.mono HBk.out.size))
      have HO1 := Lib.hid (HLL.out.below hb1)
      have HC1 := Lib.hid (hcp.more HBk.out.size)
      clear hb1 HBk HLL c1 hcp HTx
      unfold Ex.val
      have HW := Lib.hid ((HO1.out.alloc (.cells #[.slice A1 xs1.length k1, .slice A2 xs2.length k2] 46)).alloc (.cells #[.slice A1 xs1.length k1, .slice A2 xs2.length k2] 46))
      have HV := Lib.hid ((HC1.out.alloc (.cells #[.slice A1 xs1.length k1, .slice A2 xs2.length k2] 46)).alloc (.cells #[.slice A1 xs1.length k1, .slice A2 xs2.length k2] 46))
      have HN := Lib.hid (newAt (size_one w1 (.cells #[.slice A1 xs1.length k1, .slice A2 xs2.length k2] 46)) (.cells #[.slice A1 xs1.length k1, .slice A2 xs2.length k2] 46))
      have HB2 := Lib.hid ((HB1.out.alloc HB1.out.size (.cells #[.slice A1 xs1.length k1, .slice A2 xs2.length k2] 46)).alloc (by have := HB1.out.size; simp; omega) (.cells #[.slice A1 xs1.length k1, .slice A2 xs2.length k2] 46))
      go_wp2_with (at_builtin; refine wpList_append_own _ rfl _ _ 34 rfl w.heap.size 46 i0 (.agg #[.slice none 0 0, .slice none 0 0]) 2 48 Tryd.underlying34 HI.out.1 HI.out.2.1 HI.out.2.2.1 HI.out.2.2.2 rfl (by decide) _ _ _ rfl HW.out.2.1 ⟨w1.heap.size + 1, 0, none⟩ 1 1 [.slice A1 xs1.length k1, .slice A2 xs2.length k2] rfl rfl ?c1 ?c2 ?c3 ?c4 ?c5 ?_)
      case c1 =>
        intro j u hj
        rw [add_none, Nat.zero_add, blk_cell HN.out]
        simpa using hj
      case c2 => intro u hu; simp at hu; rcases hu with rfl | rfl <;> rfl
      case c3 => have h := HLk.out; have h' := HL.out; unfold maxLen; omega
      case c4 => have h := HLk.out; have h' := HL.out; omega
      case c5 => have := HB1.out.size; simp; omega
      intro v' w2 hown' hgrow _
      have HB3 := Lib.hid (below_own HB2.out (Nat.le_refl _) (Nat.le_refl _) HW.out.2.1 hgrow)
      have HS := Lib.hid (HW.out.step HEX.out HV.out hown' hgrow)
      clear hown' hgrow HB1 HO1 HC1 HW HV HN HB2
      go_wp2_with fail
      go_roundw
      case rel => exact ⟨k + 1, by omega, by go_num, Lib.hid ⟨_, HS.out⟩, HB3⟩
      case measure => simp [intOf]; omega
    · have hke : k = p.length := by omega
      subst hke
      by_cases hlt : p.length < idx.length
      · obtain ⟨b, off, rfl, hb, hcz⟩ := HR.out.at_ (by omega)
        obtain ⟨x, hx⟩ := get_some idx p.length hlt
        have c1 : wr.cell? ⟨b, off + p.length, none⟩ = some (.int .i64 x) := (HBk.out.cell (p := ⟨b, off + p.length, none⟩) hb).trans (hcz p.length x hx)
        have HTx := Lib.hid (HN.out x hx _ HBk.out)
        have HLT := Lib.hid hlt
        clear hcz hx HOk
        go_wp2_with fail
        (with_reducible refine HTx.out.mono ?_)
        rintro e w1 ⟨rfl, hb1⟩
        have HB1 := Lib.hid ((HBk.out.trans (hb1.mono HBk.out.size)).alloc (Nat.le_trans HBk.out.size hb1.size) (.cells #[.slice none 0 0, .slice none 0 0] 46))
        clear hb1 HBk c1 HTx
        go_wp2_with fail
        go_ret2
        exact ⟨fun h => absurd h (Nat.ne_of_lt HLT.out), fun _ => rfl, HB1.out⟩
      · have HE := Lib.hid (show p.length = idx.length by have := HP.out; omega)
        have hge : idx.length ≤ p.length := by omega
        obtain ⟨L, hL⟩ := HOk.out
        have hO : Copies w.heap.size wr u6 p L := by rw [List.take_length] at hL; exact hL
        have HO := Lib.hid hO
        clear hO hL
        go_wp2_with fail
        go_ret2
        exact ⟨fun _ => ⟨_, L, rfl, HO.out⟩, fun h => absurd h (by rw [HE.out]; exact Nat.lt_irrefl _), HBk.out⟩

set_option maxRecDepth 100000 in
set_option maxHeartbeats 1000000 in
theorem pick_any (Ai : Option Addr) (capi : Nat) (idx : List Int) (A : Option Addr) (cap : Nat) (l p : List Ex) (w : World) (hidx : RdI w w.heap.size Ai idx) (hil : idx.length ≤ 100000) (hr : RdE w w.heap.size A l) (hm : l.length ≤ 9223372036854775807)
    (hsel : Sel l idx p) (hl : ∀ ex ∈ l, ex.xs.length ≤ 1099511627776 ∧ ex.ys.length ≤ 1099511627776) :
    Calls Tryd.prog 26 #[.slice A l.length cap, .slice Ai idx.length capi] w (PickedC idx p w) := by
  have hb := (Below.refl w.heap.size w).alloc (Nat.le_refl _) (.cells #[.slice A l.length cap] 34)
  have HM := Lib.hid (mappedPick_any Ai capi idx A cap l p w.heap.size (w.alloc (.cells #[.slice A l.length cap] 34)) ((hidx.below hb).more hb.size) hil ((hr.below hb).more hb.size) hm hsel hl (by rw [blk_cell (heap_alloc_new w _)]; rfl))
  have HB := Lib.hid hb
  have HP := Lib.hid hsel.1
  clear hidx hil hr hm hsel hl hb
  go_enter Tryd.func26, Tryd.ntmps26
  go_wp2_with fail
  (with_reducible refine HM.out.mono ?_)
  rintro e w1 ⟨h1, h2, hb1⟩
  have HB1 := Lib.hid (HB.out.trans (hb1.mono HB.out.size))
  rcases Nat.lt_trichotomy p.length idx.length with h | h | h
  · obtain rfl := h2 h
    have H := Lib.hid h
    clear h h1 h2 hb1
    go_wp2_with fail
    go_ret2
    exact ⟨fun h => absurd h (Nat.ne_of_lt H.out), fun _ => rfl, HB1.out⟩
  · obtain ⟨v, L, rfl, hC⟩ := h1 h
    have H := Lib.hid h
    have HC := Lib.hid (show Copies w.heap.size w1 v p L from ⟨hC.1, own_more hC.2.1 HB.out.size, fun i e c he hc => (hC.2.2 i e c he hc).more HB.out.size⟩)
    clear h h1 h2 hb1 hC
    go_wp2_with fail
    go_ret2
    exact ⟨fun _ => ⟨v, L, rfl, HC.out⟩, fun h => absurd h (by rw [H.out]; exact Nat.lt_irrefl _), HB1.out⟩
  · exact absurd HP.out (by omega)

end Go.Proofs.YtajilipbnfpemaaDoor
