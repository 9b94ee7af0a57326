/- Walks: data.Parse. Conditions: the table of powers of ten, the two sentinels and the library's bound on a search read as listed. -/
import Derived.Test.YtajilipbnfpemaaDoorDataNums
import Derived.Test.YtajilipbnfpemaaDoorDeciParse
import Derived.Test.YtajilipbnfpemaaDoorSplit
import Derived.Test.YtajilipbnfpemaaDoorAppend
import Derived.Test.YtajilipbnfpemaaDoorOwn
import Derived.Test.YtajilipbnfpemaaDoorEx
namespace Go.Proofs.YtajilipbnfpemaaDoor
open Go.RowKit

theorem infoI64 : (Tryd.prog.info? 2).map (fun i => (i.zero, i.size, i.bytes)) = some (some (.int .i64 0), 1, 8) := by kernel_rfl

set_option maxHeartbeats 400000 in
theorem parseOne_any (s : ByteArray) (q : Int) (bq B : Nat) (w : World) (hs : s.size ≤ 1000) (hp : Pow B w) (he : Errs B w) (hm : MaxL B w) (hB : B ≤ w.heap.size) (hc : w.cell? ⟨bq, 0, none⟩ = some (.int .i64 q)) :
    Calls Tryd.prog 74 #[.string s, .pointer (some ⟨bq, 0, none⟩)] w (GivesParse s.data.toList q w) := by
  have C := parse_any s q B w hs hB hp he hm
  unfold GivesParse at C ⊢
  generalize parseS s.data.toList q = p at C ⊢
  obtain ⟨x, b⟩ := p
  dsimp only at C ⊢
  have HC := Lib.hid C
  clear C hs hp he hm hB
  go_enter Tryd.func74, Tryd.ntmps74
  go_wp2_with fail
  (with_reducible refine HC.out.mono ?_)
  rintro e w1 ⟨rfl, hb1⟩
  go_wp2_with fail
  go_ret2
  exact ⟨rfl, hb1⟩

/-- The numbers of words, in a row of the call's own; or none. -/
def GivesNums (W : List (List UInt8)) (q : Int) (w : World) (e : Ending) (w' : World) : Prop :=
  ((∃ zs v, numsS q W = some zs ∧ e = .returned (.tuple #[v, .bool true]) ∧ w'.ownsRow w.heap.size 2 1 v zs.length (zs.map (Value.int .i64))) ∨ (numsS q W = none ∧ e = .returned (.tuple #[.slice none 0 0, .bool false]))) ∧ Below w.heap.size w w'

set_option maxRecDepth 100000 in
set_option maxHeartbeats 2000000 in
theorem mappedNums_any (g : Nat) (ws : List ByteArray) (q : Int) (bq B : Nat) (w : World) (hg : w.heap[g]? = some (.cells (ws.map Value.string).toArray 9 (0, 0))) (hws : ∀ s ∈ ws, s.size ≤ 1000) (hl : ws.length ≤ 1000000)
    (hp : Pow B w) (he : Errs B w) (hm : MaxL B w) (hB : B ≤ w.heap.size) (hc : w.cell? ⟨bq, 0, none⟩ = some (.int .i64 q)) :
    Calls Tryd.prog 76 #[.slice (some ⟨g, 0, none⟩) ws.length ws.length, .func (.func 74) #[] #[.pointer (some ⟨bq, 0, none⟩)]] w (GivesNums (ws.map (·.data.toList)) q w) := by
  obtain ⟨i0, hi, hz0, hz1, hz2⟩ := info_parts infoI64
  have HI := Lib.hid (And.intro hi (And.intro hz0 (And.intro hz1 hz2)))
  have hlt := World.block_lt_of_cell? w _ hc
  dsimp only at hlt
  have HT := Lib.hid (fun (s : ByteArray) (hs : s.size ≤ 1000) W (hW : Below w.heap.size w W) => parseOne_any s q bq B W hs (hp.on (hW.mono hB)) (he.on (hW.mono hB)) (hm.on (hW.mono hB)) (Nat.le_trans hB hW.size) ((hW.cell (p := ⟨bq, 0, none⟩) hlt).trans hc))
  have HG := Lib.hid (And.intro hg (blk_lt hg))
  have HWS := Lib.hid hws
  have HL := Lib.hid hl
  clear hi hz0 hz1 hz2 hp he hm hB hc hlt hg hws hl
  go_enter Tryd.func76, Tryd.ntmps76
  go_wp2_with fail
  go_loopw [6, 13] (fun v i wr => ∃ (k : Nat) (zs : List Int), k ≤ ws.length ∧ i = .int .i64 k ∧ zs.length = k ∧ Hid (numsS q ((ws.map (·.data.toList)).take k) = some zs) ∧ Hid (wr.ownsRow w.heap.size 2 1 v k (zs.map (Value.int .i64))) ∧ Hid (Below w.heap.size w wr)) (fun _ i _ => ws.length - (intOf i).toNat)
  case atStart => exact ⟨0, [], Nat.zero_le _, rfl, rfl, Lib.hid (by simp [numsS]), Lib.hid (own_nil w w.heap.size 2 1), Lib.hid (Below.refl _ _)⟩
  case round =>
    obtain ⟨k, zs, hk, rfl, hzs, HNk, HOk, HBk⟩ := hrel
    have hwl : (ws.length : Int) ≤ 1000000 := by have h := HL.out; omega
    by_cases hlt : k < ws.length
    · obtain ⟨s, hs⟩ := get_some ws k hlt
      have c1 : wr.cell? ⟨g, k, none⟩ = some (.string s) := by
        rw [blk_cell (blk_below HG.out.1 HBk.out HG.out.2)]
        simp [hs]
      have HTs := Lib.hid (HT.out s (HWS.out s (List.mem_of_getElem? hs)) _ HBk.out)
      have hd : (ws.map (·.data.toList)).take (k + 1) = (ws.map (·.data.toList)).take k ++ [s.data.toList] := by
        rw [List.take_add_one]
        congr 1
        simp [hs]
      have hsn := numsS_snoc q s.data.toList ((ws.map (·.data.toList)).take k)
      rw [← hd, HNk.out] at hsn
      dsimp only at hsn
      have hdr : ws.map (·.data.toList) = (ws.map (·.data.toList)).take k ++ s.data.toList :: (ws.map (·.data.toList)).drop (k + 1) := by
        have h1 := List.take_append_drop (k + 1) (ws.map (·.data.toList))
        rw [hd] at h1
        rw [List.append_assoc] at h1
        exact h1.symm
      have hfail : (parseS s.data.toList q).2 = false → numsS q (ws.map (·.data.toList)) = none := fun h => by
        rw [hdr]
        exact numsS_fail q _ h _ _
      unfold GivesParse at HTs
      generalize parseS s.data.toList q = p at HTs hsn hfail
      obtain ⟨x, b⟩ := p
      dsimp only at HTs hsn hfail
      have HSN := Lib.hid hsn
      have HF := Lib.hid hfail
      clear hs hd hsn hdr hfail
      cases b
      · have HN := Lib.hid (HF.out rfl)
        clear HF HSN
        go_wp2_with fail
        (with_reducible refine HTs.out.mono ?_)
        rintro e w1 ⟨rfl, hb1⟩
        have HB1 := Lib.hid (HBk.out.trans (hb1.mono HBk.out.size))
        clear hb1 HBk
        go_wp2_with fail
        go_ret2
        exact ⟨.inr ⟨HN.out, rfl⟩, HB1.out⟩
      · go_wp2_with fail
        (with_reducible refine HTs.out.mono ?_)
        rintro e w1 ⟨rfl, hb1⟩
        have HB1 := Lib.hid (HBk.out.trans (hb1.mono HBk.out.size))
        have HO1 := Lib.hid (own_below HOk.out hb1)
        clear hb1 HBk HOk c1
        go_wp2_with (at_builtin; refine wpList_append_own _ rfl _ _ 44 rfl w.heap.size 2 i0 (.int .i64 0) 1 8 Tryd.underlying44 HI.out.1 HI.out.2.1 HI.out.2.2.1 HI.out.2.2.2 rfl (by decide) _ _ _ rfl (HO1.out.alloc _) ⟨w1.heap.size, 0, none⟩ 1 1 [.int .i64 x] rfl rfl ?c1 ?c2 ?c3 ?c4 ?c5 ?_)
        case c1 =>
          intro j u hj
          match j, hj with
          | 0, hj => simp at hj; subst hj; simp [Addr.add]
        case c2 => intro u hu; simp at hu; subst hu; rfl
        case c3 => have h := HL.out; unfold maxLen; omega
        case c4 => have h := HL.out; omega
        case c5 => have := HB1.out.size; simp; omega
        intro v' w2 hown' hgrow _
        have HB2 := Lib.hid (below_own (HB1.out.alloc HB1.out.size _) (Nat.le_refl _) (Nat.le_refl _) (HO1.out.alloc _) hgrow)
        have HO2 := Lib.hid (show w2.ownsRow w.heap.size 2 1 v' (k + 1) ((zs ++ [x]).map (Value.int .i64)) by rw [List.map_append]; exact hown')
        have HN2 := Lib.hid HSN.out
        simp only [if_true] at HN2
        clear hown' hgrow HB1 HO1 HSN
        go_wp2_with fail
        go_roundw
        case rel => exact ⟨k + 1, zs ++ [x], by omega, by go_num, by simp [hzs], HN2, HO2, HB2⟩
        case measure => simp [intOf]; omega
    · have hke : k = ws.length := by omega
      subst hke
      have hN := HNk.out
      rw [List.take_of_length_le (by simp)] at hN
      have HN := Lib.hid hN
      have HO := Lib.hid HOk.out
      rw [← hzs] at HO
      clear hN
      go_wp2_with fail
      go_ret2
      exact ⟨.inl ⟨zs, _, HN.out, rfl, HO.out⟩, HBk.out⟩

theorem cutArrow_any (s : ByteArray) (B : Nat) (w : World) (hm : MaxL B w) (hs : s.size ≤ 1048576) : Calls Tryd.prog 73 #[.string s, .string ⟨#[32, 62, 32]⟩] w fun e w' => e = .returned (.tuple #[.string ⟨(Lib.cut s.data.toList [32, 62, 32]).1.toArray⟩, .string ⟨(Lib.cut s.data.toList [32, 62, 32]).2.1.toArray⟩, .bool (Lib.cut s.data.toList [32, 62, 32]).2.2]) ∧ ∃ n, w' = w.drewN n := by
  obtain ⟨⟨m, hm'⟩, _⟩ := hm
  exact Tryd.strings_Cut s ⟨#[32, 62, 32]⟩ m w (by omega) hm'

theorem rd_two {w : World} {base e n cap g : Nat} {A : Option Addr} {xs : List Value} (h : w.ownsRow base e 1 (.slice A n cap) n xs) (hg : g < base) (u v : Value) :
    Rd ((w.setCell ⟨g, 0, none⟩ u).setCell ⟨g, 1, none⟩ v) w.heap.size A xs := fun h0 => by
  obtain ⟨b, off, e1, hb, hc⟩ := rd_of_own h h0
  refine ⟨b, off, e1, hb, fun j x hx => ?_⟩
  have hbn : b ≠ g := by
    subst e1
    rcases h.2 with ⟨hv, _⟩ | ⟨g', c, cu, hv, hgb, _⟩
    · cases hv
    · injection hv with hA _ _
      injection hA with hA
      injection hA with hA _ _
      omega
  have := hc j x hx
  unfold World.cell? at this ⊢
  dsimp only at this ⊢
  rw [Below.heap_setCell _ _ _ _ (by exact hbn), Below.heap_setCell _ _ _ _ (by exact hbn)]
  exact this

theorem numsS_len {q : Int} : ∀ {W : List (List UInt8)} {zs : List Int} {n : Nat}, numsS q W = some zs → W.length ≤ n → zs.length ≤ n
  | [], zs, n, h, hl => by
    simp [numsS] at h
    subst h
    simp
  | w :: W, zs, 0, h, hl => by simp at hl
  | w :: W, zs, n + 1, h, hl => by
    simp only [numsS] at h
    split at h
    · cases hn : numsS q W with
      | none => rw [hn] at h; cases h
      | some ys =>
        rw [hn] at h
        injection h with h
        subst h
        have := numsS_len hn (n := n) (by simpa using hl)
        simpa using this
    · cases h

/-- The example that data.Parse hands back, in new memory; or none. -/
def GivesEx (l : List UInt8) (q : Int) (w : World) (e : Ending) (w' : World) : Prop :=
  (((exS l q).2 = true ∧ ∃ ex : Ex, e = .returned (.tuple #[ex.val, .bool true]) ∧ ex.xs = (exS l q).1.1 ∧ ex.ys = (exS l q).1.2 ∧ RdX w' w'.heap.size ex) ∨ ((exS l q).2 = false ∧ e = .returned (.tuple #[.agg #[.slice none 0 0, .slice none 0 0], .bool false]))) ∧ Below w.heap.size w w'

theorem small_words {c : UInt8} {l : List UInt8} {ws : List ByteArray} (h : ws.map (·.data.toList) = cutAt c l) (hl : ∀ y ∈ cutAt c l, y.length ≤ 1000) : ∀ s ∈ ws, s.size ≤ 1000 := by
  intro s hs
  have := hl s.data.toList (by rw [← h]; exact List.mem_map_of_mem hs)
  have e : s.data.toList.length = s.size := Array.length_toList
  omega
theorem few_words {c : UInt8} {l : List UInt8} {ws : List ByteArray} (h : ws.map (·.data.toList) = cutAt c l) (hl : (cutAt c l).length ≤ 1000000) : ws.length ≤ 1000000 := by
  rw [← h, List.length_map] at hl
  exact hl

set_option maxRecDepth 100000 in
set_option maxHeartbeats 4000000 in
theorem dataParse_any (s : ByteArray) (q : Int) (B : Nat) (w : World) (hs : s.size ≤ 500000)
    (hw1 : ∀ y ∈ cutAt 32 (Lib.cut s.data.toList [32, 62, 32]).1, y.length ≤ 1000) (hw2 : ∀ y ∈ cutAt 32 (Lib.cut s.data.toList [32, 62, 32]).2.1, y.length ≤ 1000)
    (hk1 : (cutAt 32 (Lib.cut s.data.toList [32, 62, 32]).1).length ≤ 1000000) (hk2 : (cutAt 32 (Lib.cut s.data.toList [32, 62, 32]).2.1).length ≤ 1000000)
    (hs1 : (Lib.cut s.data.toList [32, 62, 32]).1.length ≤ 500000) (hs2 : (Lib.cut s.data.toList [32, 62, 32]).2.1.length ≤ 500000)
    (hp : Pow B w) (he : Errs B w) (hm : MaxL B w) (hB : B ≤ w.heap.size) :
    Calls Tryd.prog 46 #[.string s, .int .i64 q] w (GivesEx s.data.toList q w) := by
  have hEX := exS_parts s.data.toList q
  have HB := Lib.hid (((Below.refl w.heap.size w).alloc (Nat.le_refl _) (.cells #[.int .i64 q] 3)).alloc (by simp) (.cells #[.slice none 0 0, .slice none 0 0] 46))
  have HQ := Lib.hid (blk_alloc (heap_alloc_new w (.cells #[.int .i64 q] 3)) (.cells #[.slice none 0 0, .slice none 0 0] 46))
  have HZ := Lib.hid (show ((w.alloc (.cells #[.int .i64 q] 3)).alloc (.cells #[.slice none 0 0, .slice none 0 0] 46)).heap[w.heap.size + 1]? = some (.cells #[.slice none 0 0, .slice none 0 0] 46 (0, 0)) by
    have := heap_alloc_new (w.alloc (.cells #[.int .i64 q] 3)) (.cells #[.slice none 0 0, .slice none 0 0] 46)
    rw [World.size_alloc] at this
    exact this)
  have CT := cutArrow_any s B ((w.alloc (.cells #[.int .i64 q] 3)).alloc (.cells #[.slice none 0 0, .slice none 0 0] 46)) (hm.on (HB.out.mono hB)) (by omega)
  unfold GivesEx
  generalize exS s.data.toList q = EX at hEX ⊢
  generalize Lib.cut s.data.toList [32, 62, 32] = c3 at CT hEX hw1 hw2 hk1 hk2 hs1 hs2
  obtain ⟨l1, l2, fl⟩ := c3
  dsimp only at CT hEX hw1 hw2 hk1 hk2 hs1 hs2
  have sz : ∀ l : List UInt8, (⟨l.toArray⟩ : ByteArray).size = l.length := fun l => by simp [ByteArray.size]
  have HCT := Lib.hid CT
  have HS1 := Lib.hid (fun W (hW : Below w.heap.size w W) => split_any ⟨l1.toArray⟩ 32 B W (by rw [sz]; omega) (hm.on (hW.mono hB)))
  have HS2 := Lib.hid (fun W (hW : Below w.heap.size w W) => split_any ⟨l2.toArray⟩ 32 B W (by rw [sz]; omega) (hm.on (hW.mono hB)))
  have HM := Lib.hid (fun (g : Nat) (ws : List ByteArray) W (hW : Below w.heap.size w W) hg hws hl hc => mappedNums_any g ws q w.heap.size B W hg hws hl (hp.on (hW.mono hB)) (he.on (hW.mono hB)) (hm.on (hW.mono hB)) (Nat.le_trans hB hW.size) hc)
  have HW := Lib.hid (And.intro hw1 (And.intro hw2 (And.intro hk1 hk2)))
  have HEX := Lib.hid hEX
  clear CT hp he hm hB hs hw1 hw2 hk1 hk2 hs1 hs2 hEX sz
  go_enter Tryd.func46, Tryd.ntmps46
  go_wp2_with fail
  (with_reducible refine HCT.out.mono ?_)
  rintro e w1 ⟨rfl, n, hw1⟩
  have HB1 := Lib.hid (show Below w.heap.size w w1 by rw [hw1]; exact below_drewN HB.out n)
  have HQ1 := Lib.hid (show w1.heap[w.heap.size]? = some (.cells #[.int .i64 q] 3 (0, 0)) by rw [hw1]; exact blk_drewN HQ.out n)
  have HZ1 := Lib.hid (show w1.heap[w.heap.size + 1]? = some (.cells #[.slice none 0 0, .slice none 0 0] 46 (0, 0)) by rw [hw1]; exact blk_drewN HZ.out n)
  clear HB HQ HZ HCT hw1
  go_wp2_with fail
  (with_reducible refine (HS1.out _ HB1.out).mono ?_)
  rintro e w2 ⟨ws1, hws1, rfl, hw2⟩
  have HB2 := Lib.hid (show Below w.heap.size w w2 by rw [hw2]; exact HB1.out.alloc HB1.out.size _)
  have HQ2 := Lib.hid (show w2.heap[w.heap.size]? = some (.cells #[.int .i64 q] 3 (0, 0)) by rw [hw2]; exact blk_alloc HQ1.out _)
  have HZ2 := Lib.hid (show w2.heap[w.heap.size + 1]? = some (.cells #[.slice none 0 0, .slice none 0 0] 46 (0, 0)) by rw [hw2]; exact blk_alloc HZ1.out _)
  have hg1 : w2.heap[w1.heap.size]? = some (.cells (ws1.map Value.string).toArray 9 (0, 0)) := by rw [hw2]; exact heap_alloc_new _ _
  have HMM := Lib.hid (HM.out _ ws1 w2 HB2.out hg1 (small_words hws1 HW.out.1) (few_words hws1 HW.out.2.2.1) (by rw [blk_cell HQ2.out]; rfl))
  rw [hws1] at HMM
  clear HB1 HQ1 HZ1 hw2 hg1 hws1 HS1
  go_wp2_with fail
  (with_reducible refine HMM.out.mono ?_)
  rintro e w3 ⟨hres, hb3⟩
  have HB3 := Lib.hid (HB2.out.trans (hb3.mono HB2.out.size))
  have HQ3 := Lib.hid (blk_below HQ2.out hb3 (blk_lt HQ2.out))
  have HZ3 := Lib.hid (blk_below HZ2.out hb3 (blk_lt HZ2.out))
  have HL2 := Lib.hid (blk_lt HZ2.out)
  clear HB2 HQ2 HZ2 HMM hb3
  rcases hres with ⟨zs1, v1, hn1, rfl, ho3⟩ | ⟨hn1, rfl⟩
  · obtain ⟨A1, p1, rfl⟩ := own_slice ho3
    have HO3 := Lib.hid ho3
    have HN1 := Lib.hid hn1
    have HF1 := Lib.hid (numsS_len hn1 HW.out.2.2.1)
    clear ho3 hn1
    go_wp2_with fail
    (with_reducible refine (HS2.out _ HB3.out).mono ?_)
    rintro e w4 ⟨ws2, hws2, rfl, hw4⟩
    have HB4 := Lib.hid (show Below w.heap.size w w4 by rw [hw4]; exact HB3.out.alloc HB3.out.size _)
    have HQ4 := Lib.hid (show w4.heap[w.heap.size]? = some (.cells #[.int .i64 q] 3 (0, 0)) by rw [hw4]; exact blk_alloc HQ3.out _)
    have HZ4 := Lib.hid (show w4.heap[w.heap.size + 1]? = some (.cells #[.slice none 0 0, .slice none 0 0] 46 (0, 0)) by rw [hw4]; exact blk_alloc HZ3.out _)
    have hg2 : w4.heap[w3.heap.size]? = some (.cells (ws2.map Value.string).toArray 9 (0, 0)) := by rw [hw4]; exact heap_alloc_new _ _
    have HM2 := Lib.hid (HM.out _ ws2 w4 HB4.out hg2 (small_words hws2 HW.out.2.1) (few_words hws2 HW.out.2.2.2) (by rw [blk_cell HQ4.out]; rfl))
    rw [hws2] at HM2
    have HO4 := Lib.hid (show w4.ownsRow w2.heap.size 2 1 (.slice A1 zs1.length p1) zs1.length (zs1.map (Value.int .i64)) by rw [hw4]; exact own_below HO3.out ((Below.refl _ _).alloc (Nat.le_refl _) _))
    clear HB3 HQ3 HZ3 hw4 hg2 hws2 HS2
    go_wp2_with fail
    (with_reducible refine HM2.out.mono ?_)
    rintro e w5 ⟨hres2, hb5⟩
    have HB5 := Lib.hid (HB4.out.trans (hb5.mono HB4.out.size))
    have HZ5 := Lib.hid (blk_below HZ4.out hb5 (blk_lt HZ4.out))
    have HL4 := Lib.hid (blk_lt HZ4.out)
    have HO5 := Lib.hid (own_below HO4.out hb5)
    clear HB4 HQ4 HZ4 HM2 hb5
    rcases hres2 with ⟨zs2, v2, hn2, rfl, ho5⟩ | ⟨hn2, rfl⟩
    · obtain ⟨A2, p2, rfl⟩ := own_slice ho5
      have HP2 := Lib.hid ho5
      have HN2 := Lib.hid hn2
      have HF2 := Lib.hid (numsS_len hn2 HW.out.2.2.2)
      clear ho5 hn2
      cases fl
      · have HE := Lib.hid (show EX = (([], []), false) by rw [HEX.out]; rfl)
        clear HEX
        have z0 := blk_frozen HZ5.out 0
        have z1 := blk_frozen HZ5.out 1
        have d0 := blk_cell HZ5.out 0
        have d1 := blk_cell HZ5.out 1
        have lz := blk_lt HZ5.out
        go_wp2_with fail
        have s0 := blk_set HZ5.out 0 (.slice none 0 0)
        have s1 := blk_set s0 1 (.slice none 0 0)
        have hbW := (HB5.out.setCell (p := ⟨w.heap.size + 1, 0, none⟩) (by simp) (.slice none 0 0)).setCell (p := ⟨w.heap.size + 1, 1, none⟩) (by simp) (.slice none 0 0)
        generalize (World.setCell (World.setCell w5 ⟨w.heap.size + 1, 0, none⟩ (.slice none 0 0)) ⟨w.heap.size + 1, 1, none⟩ (.slice none 0 0)) = W at s1 hbW ⊢
        have k0 := blk_cell s1 0
        have k1 := blk_cell s1 1
        refine bodyPost_ret (v := .tuple #[.agg #[.slice none 0 0, .slice none 0 0], .bool false]) ?_ rfl ⟨.inr ⟨by rw [HE.out], rfl⟩, hbW⟩
        simp [results, Tryd.results46, go_sem, k0, k1]
      · have HE := Lib.hid (show EX = ((zs1, zs2), true) by rw [HEX.out, if_pos rfl, HN1.out, HN2.out])
        clear HEX
        have z0 := blk_frozen HZ5.out 0
        have z1 := blk_frozen HZ5.out 1
        have d0 := blk_cell HZ5.out 0
        have d1 := blk_cell HZ5.out 1
        have lz := blk_lt HZ5.out
        go_wp2_with fail
        have s0 := blk_set HZ5.out 0 (.slice A1 zs1.length p1)
        have s1 := blk_set s0 1 (.slice A2 zs2.length p2)
        have hbW := (HB5.out.setCell (p := ⟨w.heap.size + 1, 0, none⟩) (by simp) (.slice A1 zs1.length p1)).setCell (p := ⟨w.heap.size + 1, 1, none⟩) (by simp) (.slice A2 zs2.length p2)
        have r1 := rd_two HO5.out HL2.out (.slice A1 zs1.length p1) (.slice A2 zs2.length p2)
        have r2 := rd_two HP2.out HL4.out (.slice A1 zs1.length p1) (.slice A2 zs2.length p2)
        have q1 := own_cap HO5.out
        have q2 := own_cap HP2.out
        have q3 := HF1.out
        have q4 := HF2.out
        have hsz : (World.setCell (World.setCell w5 ⟨w.heap.size + 1, 0, none⟩ (.slice A1 zs1.length p1)) ⟨w.heap.size + 1, 1, none⟩ (.slice A2 zs2.length p2)).heap.size = w5.heap.size := by simp [World.setCell]
        rw [← hsz] at r1 r2
        clear hsz
        generalize (World.setCell (World.setCell w5 ⟨w.heap.size + 1, 0, none⟩ (.slice A1 zs1.length p1)) ⟨w.heap.size + 1, 1, none⟩ (.slice A2 zs2.length p2)) = W at s1 hbW r1 r2 ⊢
        have k0 := blk_cell s1 0
        have k1 := blk_cell s1 1
        refine bodyPost_ret (v := .tuple #[.agg #[.slice A1 zs1.length p1, .slice A2 zs2.length p2], .bool true]) ?_ rfl ⟨.inl ⟨by rw [HE.out], ⟨A1, zs1, p1, A2, zs2, p2⟩, rfl, by rw [HE.out], by rw [HE.out], r1, r2, q1, q2, Nat.le_trans q3 (by decide), Nat.le_trans q4 (by decide)⟩, hbW⟩
        simp [results, Tryd.results46, go_sem, k0, k1]
    · have HE := Lib.hid (show EX = (([], []), false) by
        rw [HEX.out, HN1.out, hn2]
        split <;> rfl)
      clear HEX hn2
      cases fl
      · have z0 := blk_frozen HZ5.out 0
        have z1 := blk_frozen HZ5.out 1
        have d0 := blk_cell HZ5.out 0
        have d1 := blk_cell HZ5.out 1
        have lz := blk_lt HZ5.out
        go_wp2_with fail
        have s0 := blk_set HZ5.out 0 (.slice none 0 0)
        have s1 := blk_set s0 1 (.slice none 0 0)
        have hbW := (HB5.out.setCell (p := ⟨w.heap.size + 1, 0, none⟩) (by simp) (.slice none 0 0)).setCell (p := ⟨w.heap.size + 1, 1, none⟩) (by simp) (.slice none 0 0)
        generalize (World.setCell (World.setCell w5 ⟨w.heap.size + 1, 0, none⟩ (.slice none 0 0)) ⟨w.heap.size + 1, 1, none⟩ (.slice none 0 0)) = W at s1 hbW ⊢
        have k0 := blk_cell s1 0
        have k1 := blk_cell s1 1
        refine bodyPost_ret (v := .tuple #[.agg #[.slice none 0 0, .slice none 0 0], .bool false]) ?_ rfl ⟨.inr ⟨by rw [HE.out], rfl⟩, hbW⟩
        simp [results, Tryd.results46, go_sem, k0, k1]
      · have z0 := blk_frozen HZ5.out 0
        have z1 := blk_frozen HZ5.out 1
        have d0 := blk_cell HZ5.out 0
        have d1 := blk_cell HZ5.out 1
        have lz := blk_lt HZ5.out
        go_wp2_with fail
        have s0 := blk_set HZ5.out 0 (.slice none 0 0)
        have s1 := blk_set s0 1 (.slice none 0 0)
        have hbW := (HB5.out.setCell (p := ⟨w.heap.size + 1, 0, none⟩) (by simp) (.slice none 0 0)).setCell (p := ⟨w.heap.size + 1, 1, none⟩) (by simp) (.slice none 0 0)
        generalize (World.setCell (World.setCell w5 ⟨w.heap.size + 1, 0, none⟩ (.slice none 0 0)) ⟨w.heap.size + 1, 1, none⟩ (.slice none 0 0)) = W at s1 hbW ⊢
        have k0 := blk_cell s1 0
        have k1 := blk_cell s1 1
        refine bodyPost_ret (v := .tuple #[.agg #[.slice none 0 0, .slice none 0 0], .bool false]) ?_ rfl ⟨.inr ⟨by rw [HE.out], rfl⟩, hbW⟩
        simp [results, Tryd.results46, go_sem, k0, k1]
  · have HE := Lib.hid (show EX = (([], []), false) by
      rw [HEX.out, hn1]
      split <;> rfl)
    clear HEX hn1
    go_wp2_with fail
    (with_reducible refine (HS2.out _ HB3.out).mono ?_)
    rintro e w4 ⟨ws2, hws2, rfl, hw4⟩
    have HB4 := Lib.hid (show Below w.heap.size w w4 by rw [hw4]; exact HB3.out.alloc HB3.out.size _)
    have HQ4 := Lib.hid (show w4.heap[w.heap.size]? = some (.cells #[.int .i64 q] 3 (0, 0)) by rw [hw4]; exact blk_alloc HQ3.out _)
    have HZ4 := Lib.hid (show w4.heap[w.heap.size + 1]? = some (.cells #[.slice none 0 0, .slice none 0 0] 46 (0, 0)) by rw [hw4]; exact blk_alloc HZ3.out _)
    have hg2 : w4.heap[w3.heap.size]? = some (.cells (ws2.map Value.string).toArray 9 (0, 0)) := by rw [hw4]; exact heap_alloc_new _ _
    have HM2 := Lib.hid (HM.out _ ws2 w4 HB4.out hg2 (small_words hws2 HW.out.2.1) (few_words hws2 HW.out.2.2.2) (by rw [blk_cell HQ4.out]; rfl))
    rw [hws2] at HM2
    clear HB3 HQ3 HZ3 hw4 hg2 hws2 HS2
    go_wp2_with fail
    (with_reducible refine HM2.out.mono ?_)
    rintro e w5 ⟨hres2, hb5⟩
    have HB5 := Lib.hid (HB4.out.trans (hb5.mono HB4.out.size))
    have HZ5 := Lib.hid (blk_below HZ4.out hb5 (blk_lt HZ4.out))
    clear HB4 HQ4 HZ4 HM2 hb5
    rcases hres2 with ⟨zs2, v2, hn2, rfl, ho5⟩ | ⟨hn2, rfl⟩
    · clear hn2 ho5
      cases fl
      · have z0 := blk_frozen HZ5.out 0
        have z1 := blk_frozen HZ5.out 1
        have d0 := blk_cell HZ5.out 0
        have d1 := blk_cell HZ5.out 1
        have lz := blk_lt HZ5.out
        go_wp2_with fail
        have s0 := blk_set HZ5.out 0 (.slice none 0 0)
        have s1 := blk_set s0 1 (.slice none 0 0)
        have hbW := (HB5.out.setCell (p := ⟨w.heap.size + 1, 0, none⟩) (by simp) (.slice none 0 0)).setCell (p := ⟨w.heap.size + 1, 1, none⟩) (by simp) (.slice none 0 0)
        generalize (World.setCell (World.setCell w5 ⟨w.heap.size + 1, 0, none⟩ (.slice none 0 0)) ⟨w.heap.size + 1, 1, none⟩ (.slice none 0 0)) = W at s1 hbW ⊢
        have k0 := blk_cell s1 0
        have k1 := blk_cell s1 1
        refine bodyPost_ret (v := .tuple #[.agg #[.slice none 0 0, .slice none 0 0], .bool false]) ?_ rfl ⟨.inr ⟨by rw [HE.out], rfl⟩, hbW⟩
        simp [results, Tryd.results46, go_sem, k0, k1]
      · have z0 := blk_frozen HZ5.out 0
        have z1 := blk_frozen HZ5.out 1
        have d0 := blk_cell HZ5.out 0
        have d1 := blk_cell HZ5.out 1
        have lz := blk_lt HZ5.out
        go_wp2_with fail
        have s0 := blk_set HZ5.out 0 (.slice none 0 0)
        have s1 := blk_set s0 1 (.slice none 0 0)
        have hbW := (HB5.out.setCell (p := ⟨w.heap.size + 1, 0, none⟩) (by simp) (.slice none 0 0)).setCell (p := ⟨w.heap.size + 1, 1, none⟩) (by simp) (.slice none 0 0)
        generalize (World.setCell (World.setCell w5 ⟨w.heap.size + 1, 0, none⟩ (.slice none 0 0)) ⟨w.heap.size + 1, 1, none⟩ (.slice none 0 0)) = W at s1 hbW ⊢
        have k0 := blk_cell s1 0
        have k1 := blk_cell s1 1
        refine bodyPost_ret (v := .tuple #[.agg #[.slice none 0 0, .slice none 0 0], .bool false]) ?_ rfl ⟨.inr ⟨by rw [HE.out], rfl⟩, hbW⟩
        simp [results, Tryd.results46, go_sem, k0, k1]
    · clear hn2
      cases fl
      · have z0 := blk_frozen HZ5.out 0
        have z1 := blk_frozen HZ5.out 1
        have d0 := blk_cell HZ5.out 0
        have d1 := blk_cell HZ5.out 1
        have lz := blk_lt HZ5.out
        go_wp2_with fail
        have s0 := blk_set HZ5.out 0 (.slice none 0 0)
        have s1 := blk_set s0 1 (.slice none 0 0)
        have hbW := (HB5.out.setCell (p := ⟨w.heap.size + 1, 0, none⟩) (by simp) (.slice none 0 0)).setCell (p := ⟨w.heap.size + 1, 1, none⟩) (by simp) (.slice none 0 0)
        generalize (World.setCell (World.setCell w5 ⟨w.heap.size + 1, 0, none⟩ (.slice none 0 0)) ⟨w.heap.size + 1, 1, none⟩ (.slice none 0 0)) = W at s1 hbW ⊢
        have k0 := blk_cell s1 0
        have k1 := blk_cell s1 1
        refine bodyPost_ret (v := .tuple #[.agg #[.slice none 0 0, .slice none 0 0], .bool false]) ?_ rfl ⟨.inr ⟨by rw [HE.out], rfl⟩, hbW⟩
        simp [results, Tryd.results46, go_sem, k0, k1]
      · have z0 := blk_frozen HZ5.out 0
        have z1 := blk_frozen HZ5.out 1
        have d0 := blk_cell HZ5.out 0
        have d1 := blk_cell HZ5.out 1
        have lz := blk_lt HZ5.out
        go_wp2_with fail
        have s0 := blk_set HZ5.out 0 (.slice none 0 0)
        have s1 := blk_set s0 1 (.slice none 0 0)
        have hbW := (HB5.out.setCell (p := ⟨w.heap.size + 1, 0, none⟩) (by simp) (.slice none 0 0)).setCell (p := ⟨w.heap.size + 1, 1, none⟩) (by simp) (.slice none 0 0)
        generalize (World.setCell (World.setCell w5 ⟨w.heap.size + 1, 0, none⟩ (.slice none 0 0)) ⟨w.heap.size + 1, 1, none⟩ (.slice none 0 0)) = W at s1 hbW ⊢
        have k0 := blk_cell s1 0
        have k1 := blk_cell s1 1
        refine bodyPost_ret (v := .tuple #[.agg #[.slice none 0 0, .slice none 0 0], .bool false]) ?_ rfl ⟨.inr ⟨by rw [HE.out], rfl⟩, hbW⟩
        simp [results, Tryd.results46, go_sem, k0, k1]

end Go.Proofs.YtajilipbnfpemaaDoor
