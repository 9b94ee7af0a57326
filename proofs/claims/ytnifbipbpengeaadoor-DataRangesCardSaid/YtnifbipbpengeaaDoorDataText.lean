/- Walks: data.Text. Conditions: the table of powers of ten reads as listed. -/
import Derived.Test.YtnifbipbpengeaaDoorDataPlain
import Derived.Test.YtnifbipbpengeaaDoorDeciText
import Derived.Test.YtnifbipbpengeaaDoorJoined
import Derived.Test.YtnifbipbpengeaaDoorOwn
import Derived.Test.YtnifbipbpengeaaDoorEx
namespace Go.Proofs.YtnifbipbpengeaaDoor
open Go.RowKit

theorem isEmpty_no {l : List UInt8} (h : l ≠ []) : (⟨l.toArray⟩ : ByteArray).toList.isEmpty = false := by
  rw [Go.ByteArray.toList_eq]
  cases l with
  | nil => exact absurd rfl h
  | cons _ _ => rfl

set_option maxHeartbeats 400000 in
theorem textOne_yes (x : Int) (q : Nat) (hq : q ≤ 62) (hx : In64 x) (bq : Nat) (B : Nat) (w : World) (hp : Pow B w) (hB : B ≤ w.heap.size) (hc : w.cell? ⟨bq, 0, none⟩ = some (.int .i64 q)) :
    Calls Tryd.prog 14 #[.int .i64 x, .pointer (some ⟨bq, 0, none⟩)] w fun e w' => e = .returned (.tuple #[.string ⟨(decText x q).toArray⟩, .bool true]) ∧ Below w.heap.size w w' := by
  have HT := Lib.hid (decText_any x q hq hx B w hp hB)
  have he := isEmpty_no (decText_ne x q)
  obtain ⟨s, hs⟩ : ∃ s : ByteArray, ⟨(decText x q).toArray⟩ = s := ⟨_, rfl⟩
  rw [hs] at HT he ⊢
  clear hs hp hB hq hx
  go_enter Tryd.func14, Tryd.ntmps14
  go_wp2_with fail
  (with_reducible refine HT.out.mono ?_)
  rintro e w1 ⟨rfl, hb1⟩
  go_wp2_with fail
  go_ret2
  exact ⟨rfl, hb1⟩

set_option maxHeartbeats 400000 in
theorem textOne_no (x q : Int) (hq : ¬ (0 ≤ q ∧ q ≤ 62)) (bq : Nat) (w : World) (hc : w.cell? ⟨bq, 0, none⟩ = some (.int .i64 q)) :
    Calls Tryd.prog 14 #[.int .i64 x, .pointer (some ⟨bq, 0, none⟩)] w fun e w' => e = .returned (.tuple #[.string ⟨#[]⟩, .bool false]) ∧ w = w' := by
  have HT := Lib.hid (decText_no x q hq w)
  clear hq
  go_enter Tryd.func14, Tryd.ntmps14
  go_wp2_with fail
  (with_reducible refine HT.out.mono ?_)
  rintro e w1 ⟨rfl, rfl⟩
  go_wp2_with fail
  go_ret2
  exact ⟨rfl, rfl⟩

def txtB (zs : List Int) (q : Nat) : List ByteArray := zs.map fun x => ⟨(decText x q).toArray⟩
theorem txtB_data (zs : List Int) (q : Nat) : (txtB zs q).map (·.data.toList) = txtL zs q := by simp [txtB, txtL]

set_option maxRecDepth 100000 in
set_option maxHeartbeats 1000000 in
theorem mappedText_yes (A : Option Addr) (cap : Nat) (zs : List Int) (q : Nat) (hq : q ≤ 62) (hz : ∀ x ∈ zs, In64 x) (hl : zs.length ≤ 100000) (bq B : Nat) (w : World) (hp : Pow B w) (hB : B ≤ w.heap.size) (hr : RdI w w.heap.size A zs) (hc : w.cell? ⟨bq, 0, none⟩ = some (.int .i64 q)) :
    Calls Tryd.prog 13 #[.slice A zs.length cap, .func (.func 14) #[] #[.pointer (some ⟨bq, 0, none⟩)]] w
      fun e w' => ∃ v, e = .returned (.tuple #[v, .bool true]) ∧ w'.ownsRow w.heap.size 9 1 v zs.length ((txtB zs q).map Value.string) ∧ Below w.heap.size w w' := by
  obtain ⟨i0, hi, hz0, hz1, hz2⟩ := info_parts infoStr
  have HI := Lib.hid (And.intro hi (And.intro hz0 (And.intro hz1 hz2)))
  have hlt := World.block_lt_of_cell? w _ hc
  dsimp only at hlt
  have HC := Lib.hid (And.intro hc hlt)
  have HR := Lib.hid hr
  have HT := Lib.hid (fun (x : Int) (hx : In64 x) W (hW : Below w.heap.size w W) => textOne_yes x q hq hx bq B W (hp.on (hW.mono hB)) (Nat.le_trans hB hW.size) ((hW.cell (p := ⟨bq, 0, none⟩) hlt).trans hc))
  have HZ := Lib.hid hz
  have HL := Lib.hid hl
  clear hi hz0 hz1 hz2 hp hB hr hc hlt hz hq hl
  go_enter Tryd.func13, Tryd.ntmps13
  go_wp2_with fail
  go_loopw [6, 13] (fun v i wr => ∃ k : Nat, k ≤ zs.length ∧ i = .int .i64 k ∧ Hid (wr.ownsRow w.heap.size 9 1 v k (((txtB zs q).map Value.string).take k)) ∧ Hid (Below w.heap.size w wr)) (fun _ i _ => zs.length - (intOf i).toNat)
  case atStart => exact ⟨0, Nat.zero_le _, rfl, Lib.hid (own_nil w w.heap.size 9 1), Lib.hid (Below.refl _ _)⟩
  case round =>
    obtain ⟨k, hk, rfl, HOk, HBk⟩ := hrel
    have hzl : (zs.length : Int) ≤ 100000 := by have h := HL.out; omega
    by_cases hlt : k < zs.length
    · obtain ⟨b, off, rfl, hb, hcz⟩ := HR.out.at_ (by omega)
      obtain ⟨x, hx⟩ := get_some zs k hlt
      have c1 : wr.cell? ⟨b, off + k, none⟩ = some (.int .i64 x) := (HBk.out.cell (p := ⟨b, off + k, none⟩) hb).trans (hcz k x hx)
      have HNX := Lib.hid (show ((txtB zs q).map Value.string).take (k + 1) = ((txtB zs q).map Value.string).take k ++ [.string ⟨(decText x q).toArray⟩] by
        rw [List.take_add_one]
        congr 1
        simp [txtB, hx])
      have HTx := Lib.hid (HT.out x (HZ.out x (List.mem_of_getElem? hx)) _ HBk.out)
      obtain ⟨s, hs⟩ : ∃ s : ByteArray, ⟨(decText x q).toArray⟩ = s := ⟨_, rfl⟩
      rw [hs] at HTx HNX
      clear hcz hx hs
      go_wp2_with fail
      (with_reducible refine HTx.out.mono ?_)
      rintro e w1 ⟨rfl, hb1⟩
      have HB1 := Lib.hid (HBk.out.trans (hb1.mono HBk.out.size))
      have HO1 := Lib.hid (own_below HOk.out hb1)
      clear hb1 HBk HOk c1
      go_wp2_with (at_builtin; refine wpList_append_own _ rfl _ _ 39 rfl w.heap.size 9 i0 (.string ByteArray.empty) 1 16 Tryd.underlying39 HI.out.1 HI.out.2.1 HI.out.2.2.1 HI.out.2.2.2 rfl (by decide) _ _ _ rfl (HO1.out.alloc _) ⟨w1.heap.size, 0, none⟩ 1 1 [.string s] rfl rfl ?c1 ?c2 ?c3 ?c4 ?c5 ?_)
      case c1 =>
        intro j u hj
        match j, hj with
        | 0, hj => simp at hj; subst hj; simp [Addr.add]
      case c2 => intro u hu; simp at hu; subst hu; rfl
      case c3 => have h := HL.out; unfold maxLen; omega
      case c4 => have h := HL.out; omega
      case c5 => have := HB1.out.size; simp; omega
      intro v' w2 hown' hgrow _
      have HB2 := Lib.hid (below_own (HB1.out.alloc HB1.out.size _) (Nat.le_refl _) (Nat.le_refl _) (HO1.out.alloc _) hgrow)
      have HO2 := Lib.hid hown'
      clear hown' hgrow HB1 HO1
      go_wp2_with fail
      go_roundw
      case rel => exact ⟨k + 1, by omega, by go_num, Lib.hid (by rw [HNX.out]; exact HO2.out), HB2⟩
      case measure => simp [intOf]; omega
    · have hke : k = zs.length := by omega
      subst hke
      have hO := HOk.out
      rw [List.take_of_length_le (by simp [txtB])] at hO
      have HO := Lib.hid hO
      clear hO
      go_wp2_with fail
      go_ret2
      exact ⟨_, rfl, HO.out, HBk.out⟩

set_option maxRecDepth 100000 in
set_option maxHeartbeats 1000000 in
theorem mappedText_no (A : Option Addr) (cap : Nat) (zs : List Int) (q : Int) (hq : ¬ (0 ≤ q ∧ q ≤ 62)) (hl : zs.length ≤ 100000) (bq : Nat) (w : World) (hr : RdI w w.heap.size A zs) (hc : w.cell? ⟨bq, 0, none⟩ = some (.int .i64 q)) :
    Calls Tryd.prog 13 #[.slice A zs.length cap, .func (.func 14) #[] #[.pointer (some ⟨bq, 0, none⟩)]] w
      fun e w' => (∃ b, e = .returned (.tuple #[.slice none 0 0, .bool b])) ∧ w = w' := by
  have HR := Lib.hid hr
  have HT := Lib.hid (fun (x : Int) => textOne_no x q hq bq w hc)
  have hzl : (zs.length : Int) ≤ 100000 := by omega
  clear hr hc hq hl
  by_cases h0 : zs.length = 0
  · obtain rfl : zs = [] := List.eq_nil_of_length_eq_zero h0
    clear h0 HT HR
    go_enter Tryd.func13, Tryd.ntmps13
    go_wp2_with fail
    go_loop [6, 13] (fun v i => v = .slice none 0 0 ∧ i = .int .i64 0) (fun _ _ => 0)
    case atStart => exact ⟨rfl, rfl⟩
    case round =>
      obtain ⟨rfl, rfl⟩ := hrel
      go_wp2_with fail
      go_ret2
      exact ⟨.inr rfl, rfl⟩
  · have hp : (0 : Int) < (zs.length : Int) := by omega
    obtain ⟨b, off, rfl, hb, hcz⟩ := HR.out.at_ (by omega)
    obtain ⟨x, hx⟩ := get_some zs 0 (by omega)
    have c1 : w.cell? ⟨b, off, none⟩ = some (.int .i64 x) := hcz 0 x hx
    clear h0 hcz hx
    go_enter Tryd.func13, Tryd.ntmps13
    go_wp2_with fail
    go_loop [6, 13] (fun v i => v = .slice none 0 0 ∧ i = .int .i64 0) (fun _ _ => 0)
    case atStart => exact ⟨rfl, rfl⟩
    case round =>
      obtain ⟨rfl, rfl⟩ := hrel
      go_wp2_with fail
      (with_reducible refine (HT.out x).mono ?_)
      rintro e w1 ⟨rfl, rfl⟩
      go_wp2_with fail
      go_ret2
      exact ⟨⟨_, rfl⟩, rfl⟩

set_option maxRecDepth 100000 in
set_option maxHeartbeats 1000000 in
theorem texts_yes (A : Option Addr) (cap : Nat) (zs : List Int) (q : Nat) (hq : q ≤ 62) (hz : ∀ x ∈ zs, In64 x) (hl : zs.length ≤ 100000) (ht : (rowText zs q).length ≤ 100000000) (B : Nat) (w : World) (hp : Pow B w) (hB : B ≤ w.heap.size) (hr : RdI w w.heap.size A zs) :
    Calls Tryd.prog 10 #[.slice A zs.length cap, .int .i64 q] w fun e w' => e = .returned (.tuple #[.string ⟨(rowText zs q).toArray⟩, .bool (decide (0 < zs.length))]) ∧ Below w.heap.size w w' := by
  have hb0 := (Below.refl w.heap.size w).alloc (Nat.le_refl _) (.cells #[.int .i64 q] 3)
  have HM := Lib.hid (mappedText_yes A cap zs q hq hz hl w.heap.size B (w.alloc (.cells #[.int .i64 q] 3)) (hp.on (hb0.mono hB)) (Nat.le_trans hB hb0.size) ((hr.alloc (Nat.le_refl _) _).more hb0.size) (by rw [blk_cell (heap_alloc_new w _)]; rfl))
  have HB0 := Lib.hid hb0
  have hxl : (txtB zs q).length = zs.length := by simp [txtB]
  have hj : Lib.join ((txtB zs q).map (·.data.toList)) (⟨#[32]⟩ : ByteArray).data.toList = rowText zs q := by rw [txtB_data]; rfl
  have HJ := Lib.hid (fun v base W (h : W.ownsRow base 9 1 v (txtB zs q).length ((txtB zs q).map Value.string)) => join_own v (txtB zs q) ⟨#[32]⟩ base W h (by omega) (by rw [hj]; omega))
  rw [hj, hxl] at HJ
  clear hp hB hr hz hb0 hj hxl ht
  obtain ⟨s, hs⟩ : ∃ s : ByteArray, ⟨(rowText zs q).toArray⟩ = s := ⟨_, rfl⟩
  rw [hs] at HJ ⊢
  clear hs
  go_enter Tryd.func10, Tryd.ntmps10
  go_wp2_with fail
  (with_reducible refine HM.out.mono ?_)
  rintro e w1 ⟨v, rfl, hown, hb1⟩
  have HB1 := Lib.hid (HB0.out.trans (hb1.mono HB0.out.size))
  have HJ1 := Lib.hid (HJ.out v _ w1 hown)
  obtain ⟨A', cap', rfl⟩ := own_slice hown
  clear hown hb1 HB0 HM HJ
  go_wp2_with fail
  (with_reducible refine HJ1.out.mono ?_)
  rintro e w2 ⟨rfl, hb2⟩
  have HB2 := Lib.hid (HB1.out.trans (hb2.mono HB1.out.size))
  clear hb2 HB1 HJ1
  go_wp2_with fail
  go_ret2
  exact ⟨by simp, HB2.out⟩

set_option maxRecDepth 100000 in
set_option maxHeartbeats 1000000 in
theorem texts_no (A : Option Addr) (cap : Nat) (zs : List Int) (q : Int) (hq : ¬ (0 ≤ q ∧ q ≤ 62)) (hl : zs.length ≤ 100000) (w : World) (hr : RdI w w.heap.size A zs) :
    Calls Tryd.prog 10 #[.slice A zs.length cap, .int .i64 q] w fun e w' => e = .returned (.tuple #[.string ⟨#[]⟩, .bool false]) ∧ Below w.heap.size w w' := by
  have hb0 := (Below.refl w.heap.size w).alloc (Nat.le_refl _) (.cells #[.int .i64 q] 3)
  have HM := Lib.hid (mappedText_no A cap zs q hq hl w.heap.size (w.alloc (.cells #[.int .i64 q] 3)) ((hr.alloc (Nat.le_refl _) _).more hb0.size) (by rw [blk_cell (heap_alloc_new w _)]; rfl))
  have HB0 := Lib.hid hb0
  have HJ := Lib.hid (fun W => Tryd.strings_Join_none none 0 ⟨#[32]⟩ W)
  clear hr hb0 hq hl
  go_enter Tryd.func10, Tryd.ntmps10
  go_wp2_with fail
  (with_reducible refine HM.out.mono ?_)
  rintro e w1 ⟨⟨b, rfl⟩, rfl⟩
  go_wp2_with fail
  (with_reducible refine (HJ.out _).mono ?_)
  rintro e w2 ⟨rfl, rfl⟩
  cases b
  · go_wp2_with fail
    go_ret2
    exact ⟨rfl, HB0.out⟩
  · go_wp2_with fail
    go_ret2
    exact ⟨rfl, HB0.out⟩

/-- What data.Text returns. -/
def exTextS (xs ys : List Int) (q : Nat) : List UInt8 × Bool := if 0 < xs.length ∧ 0 < ys.length then (exText xs ys q, true) else ([], false)

set_option maxRecDepth 100000 in
set_option maxHeartbeats 1000000 in
theorem dataText_yes (ex : Ex) (q : Nat) (hq : q ≤ 62) (hz : (∀ x ∈ ex.xs, In64 x) ∧ ∀ y ∈ ex.ys, In64 y) (hl : ex.xs.length ≤ 100000 ∧ ex.ys.length ≤ 100000) (ht : (rowText ex.xs q).length ≤ 100000000 ∧ (rowText ex.ys q).length ≤ 100000000) (B : Nat) (w : World) (hp : Pow B w) (hB : B ≤ w.heap.size) (hr : RdX w w.heap.size ex) :
    Calls Tryd.prog 8 #[ex.val, .int .i64 q] w fun e w' => e = .returned (.tuple #[.string ⟨(exTextS ex.xs ex.ys q).1.toArray⟩, .bool (exTextS ex.xs ex.ys q).2]) ∧ Below w.heap.size w w' := by
  have HX := Lib.hid (fun W (hW : Below w.heap.size w W) => texts_yes ex.ax ex.cx ex.xs q hq hz.1 hl.1 ht.1 B W (hp.on (hW.mono hB)) (Nat.le_trans hB hW.size) ((hr.1.below hW).more hW.size))
  have HY := Lib.hid (fun W (hW : Below w.heap.size w W) => texts_yes ex.ay ex.cy ex.ys q hq hz.2 hl.2 ht.2 B W (hp.on (hW.mono hB)) (Nat.le_trans hB hW.size) ((hr.2.1.below hW).more hW.size))
  have hS : exTextS ex.xs ex.ys q = if 0 < ex.xs.length ∧ 0 < ex.ys.length then (exText ex.xs ex.ys q, true) else ([], false) := rfl
  obtain ⟨ax, xs, cx, ay, ys, cy⟩ := ex
  unfold Ex.val
  dsimp only at HX HY hS hl ht ⊢
  have hcat : exText xs ys q = rowText xs q ++ [32, 62, 32] ++ rowText ys q := rfl
  have hsx : (⟨(rowText xs q).toArray⟩ : ByteArray).size ≤ 100000000 := by simp [ByteArray.size]; exact ht.1
  have hsy : (⟨(rowText ys q).toArray⟩ : ByteArray).size ≤ 100000000 := by simp [ByteArray.size]; exact ht.2
  have hT : (⟨(rowText xs q).toArray⟩ : ByteArray) ++ ⟨#[32, 62, 32]⟩ ++ ⟨(rowText ys q).toArray⟩ = ⟨(exText xs ys q).toArray⟩ := by
    rw [show (⟨#[32, 62, 32]⟩ : ByteArray) = ⟨([32, 62, 32] : List UInt8).toArray⟩ from rfl, ByteArray.mk_append_mk, ByteArray.mk_append_mk, hcat]
  have HT := Lib.hid hT
  obtain ⟨s, hs⟩ : ∃ s : ByteArray, ⟨(rowText xs q).toArray⟩ = s := ⟨_, rfl⟩
  obtain ⟨t, ht'⟩ : ∃ s : ByteArray, ⟨(rowText ys q).toArray⟩ = s := ⟨_, rfl⟩
  rw [hs, ht'] at HT
  rw [hs] at HX hsx
  rw [ht'] at HY hsy
  have HB := Lib.hid ((Below.refl w.heap.size w).alloc (Nat.le_refl _) (.cells #[.slice ax xs.length cx, .slice ay ys.length cy] 30))
  have HE := Lib.hid (heap_alloc_new w (.cells #[.slice ax xs.length cx, .slice ay ys.length cy] 30))
  clear hp hB hr hz hl ht hs ht' hT hcat
  by_cases h1 : 0 < xs.length
  · by_cases h2 : 0 < ys.length
    · rw [if_pos ⟨h1, h2⟩] at hS
      rw [decide_eq_true h1] at HX
      rw [decide_eq_true h2] at HY
      have HS := Lib.hid hS
      clear hS h1 h2
      have c0 := blk_cell HE.out 0
      go_enter Tryd.func8, Tryd.ntmps8
      go_wp2_with fail
      (with_reducible refine (HX.out _ HB.out).mono ?_)
      rintro e w1 ⟨rfl, hb1⟩
      have HB1 := Lib.hid (HB.out.trans (hb1.mono HB.out.size))
      have HE1 := Lib.hid (blk_below HE.out hb1 (blk_lt HE.out))
      clear hb1 HB HE c0
      have c1 := blk_cell HE1.out 1
      go_wp2_with fail
      (with_reducible refine (HY.out _ HB1.out).mono ?_)
      rintro e w2 ⟨rfl, hb2⟩
      have HB2 := Lib.hid (HB1.out.trans (hb2.mono HB1.out.size))
      clear hb2 HB1 c1
      go_wp2_with fail
      go_ret2
      exact ⟨by rw [HS.out, ← HT.out]; rfl, HB2.out⟩
    · rw [if_neg (fun h => h2 h.2)] at hS
      rw [decide_eq_true h1] at HX
      rw [decide_eq_false h2] at HY
      have HS := Lib.hid hS
      clear hS h1 h2
      have c0 := blk_cell HE.out 0
      go_enter Tryd.func8, Tryd.ntmps8
      go_wp2_with fail
      (with_reducible refine (HX.out _ HB.out).mono ?_)
      rintro e w1 ⟨rfl, hb1⟩
      have HB1 := Lib.hid (HB.out.trans (hb1.mono HB.out.size))
      have HE1 := Lib.hid (blk_below HE.out hb1 (blk_lt HE.out))
      clear hb1 HB HE c0
      have c1 := blk_cell HE1.out 1
      go_wp2_with fail
      (with_reducible refine (HY.out _ HB1.out).mono ?_)
      rintro e w2 ⟨rfl, hb2⟩
      have HB2 := Lib.hid (HB1.out.trans (hb2.mono HB1.out.size))
      clear hb2 HB1 c1
      go_wp2_with fail
      go_ret2
      exact ⟨by rw [HS.out]; rfl, HB2.out⟩
  · rw [if_neg (fun h => h1 h.1)] at hS
    rw [decide_eq_false h1] at HX
    have HS := Lib.hid hS
    clear hS h1
    have c0 := blk_cell HE.out 0
    go_enter Tryd.func8, Tryd.ntmps8
    go_wp2_with fail
    (with_reducible refine (HX.out _ HB.out).mono ?_)
    rintro e w1 ⟨rfl, hb1⟩
    have HB1 := Lib.hid (HB.out.trans (hb1.mono HB.out.size))
    have HE1 := Lib.hid (blk_below HE.out hb1 (blk_lt HE.out))
    clear hb1 HB HE c0
    have c1 := blk_cell HE1.out 1
    go_wp2_with fail
    (with_reducible refine (HY.out _ HB1.out).mono ?_)
    rintro e w2 ⟨rfl, hb2⟩
    have HB2 := Lib.hid (HB1.out.trans (hb2.mono HB1.out.size))
    clear hb2 HB1 c1
    go_wp2_with fail
    go_ret2
    exact ⟨by rw [HS.out]; rfl, HB2.out⟩

set_option maxRecDepth 100000 in
set_option maxHeartbeats 1000000 in
theorem alive10_any (B : Nat) (w : World) (hp : Pow B w) (hB : B ≤ w.heap.size) : Calls Tryd.prog 5 #[] w fun e w' => e = .returned (.bool true) ∧ Below w.heap.size w w' := by
  have t1 : (⟨(exText [3, 2] [-1] 1).toArray⟩ : ByteArray) = ⟨#[49, 46, 53, 32, 49, 32, 62, 32, 45, 48, 46, 53]⟩ := by decide +kernel
  have hb := ((Below.refl w.heap.size w).alloc (Nat.le_refl _) (.cells #[.int .i64 3, .int .i64 2] 2)).alloc (by simp) (.cells #[.int .i64 (-1)] 2)
  have r1 : RdI ((w.alloc (.cells #[.int .i64 3, .int .i64 2] 2)).alloc (.cells #[.int .i64 (-1)] 2)) ((w.alloc (.cells #[.int .i64 3, .int .i64 2] 2)).alloc (.cells #[.int .i64 (-1)] 2)).heap.size (some ⟨w.heap.size, 0, none⟩) [3, 2] := fun _ => ⟨w.heap.size, 0, rfl, by simp; omega, fun j u hu => by
    rw [Nat.zero_add, blk_cell (blk_alloc (heap_alloc_new w _) _)]; simpa using hu⟩
  have r2 : RdI ((w.alloc (.cells #[.int .i64 3, .int .i64 2] 2)).alloc (.cells #[.int .i64 (-1)] 2)) ((w.alloc (.cells #[.int .i64 3, .int .i64 2] 2)).alloc (.cells #[.int .i64 (-1)] 2)).heap.size (some ⟨w.heap.size + 1, 0, none⟩) [-1] := fun _ => ⟨w.heap.size + 1, 0, rfl, by simp, fun j u hu => by
    have hz := heap_alloc_new (w.alloc (.cells #[.int .i64 3, .int .i64 2] 2)) (.cells #[.int .i64 (-1)] 2)
    rw [World.size_alloc] at hz
    rw [Nat.zero_add, blk_cell hz]; simpa using hu⟩
  have C1 : Calls Tryd.prog 8 #[.agg #[.slice (some ⟨w.heap.size, 0, none⟩) 2 2, .slice (some ⟨w.heap.size + 1, 0, none⟩) 1 1], .int .i64 1] ((w.alloc (.cells #[.int .i64 3, .int .i64 2] 2)).alloc (.cells #[.int .i64 (-1)] 2)) _ :=
    dataText_yes ⟨some ⟨w.heap.size, 0, none⟩, [3, 2], 2, some ⟨w.heap.size + 1, 0, none⟩, [-1], 1⟩ 1 (by decide) ⟨by simp [In64], by simp [In64]⟩ (show 2 ≤ 100000 ∧ 1 ≤ 100000 by decide) (show (rowText [3, 2] 1).length ≤ 100000000 ∧ (rowText [-1] 1).length ≤ 100000000 by decide +kernel) B _ (hp.on (hb.mono hB)) (Nat.le_trans hB hb.size) ⟨r1, r2, show 2 ≤ 2 by decide, show 1 ≤ 1 by decide, show 2 ≤ 9223372036854775807 by decide, show 1 ≤ 9223372036854775807 by decide⟩
  rw [show exTextS [3, 2] [-1] 1 = (exText [3, 2] [-1] 1, true) from rfl] at C1
  dsimp only at C1
  rw [t1] at C1
  have H1 := Lib.hid C1
  have HB := Lib.hid hb
  clear C1 t1 hb r1 r2
  go_enter Tryd.func5, Tryd.ntmps5
  go_wp2_with fail
  (with_reducible refine H1.out.mono ?_)
  rintro e w1 ⟨rfl, hb1⟩
  have HB1 := Lib.hid (HB.out.trans (hb1.mono HB.out.size))
  clear hb1
  go_wp2_with fail
  go_ret
  exact ⟨rfl, HB1.out⟩

end Go.Proofs.YtnifbipbpengeaaDoor
