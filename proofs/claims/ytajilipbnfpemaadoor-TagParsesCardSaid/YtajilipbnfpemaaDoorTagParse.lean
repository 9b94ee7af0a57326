/- Walks: tag.Parse. Conditions: the table of powers of ten, the two sentinels and the library's bound on a search read as listed. -/
import Derived.Test.YtajilipbnfpemaaDoorTagText
import Derived.Test.YtajilipbnfpemaaDoorSplit
import Derived.Test.YtajilipbnfpemaaDoorNumber
import Derived.WalkMore
namespace Go.Proofs.YtajilipbnfpemaaDoor
open Go.RowKit

def headL (p : Int) : List (List UInt8) := [[115], [98], phaseL p, [99]]
def headB (p : Int) : Array Value := #[.string ⟨#[115]⟩, .string ⟨#[98]⟩, .string ⟨(phaseL p).toArray⟩, .string ⟨#[99]⟩]
/-- No right tag of this phase has these words. -/
def NoPh (W : List (List UInt8)) (p : Int) : Prop := ∀ t, tagOk t → t.p = p → W ≠ tagWords t
/-- A word is a head and a number. -/
def OkW (W : List (List UInt8)) (p : Int) (i : Nat) (x : Int) : Prop := ∃ hd wd, (headL p)[i]? = some hd ∧ W[i]? = some wd ∧ wd = hd ++ Lib.itoa x ∧ 0 ≤ x ∧ x ≤ 1048575

theorem words_ok {t : Tg} (h : tagOk t) : OkW (tagWords t) t.p 0 t.a ∧ OkW (tagWords t) t.p 1 t.b ∧ OkW (tagWords t) t.p 2 t.r ∧ OkW (tagWords t) t.p 3 t.c := by
  unfold tagOk at h
  exact ⟨⟨_, _, rfl, rfl, rfl, by omega, by omega⟩, ⟨_, _, rfl, rfl, rfl, by omega, by omega⟩, ⟨_, _, rfl, rfl, rfl, by omega, by omega⟩, ⟨_, _, rfl, rfl, rfl, by omega, by omega⟩⟩

theorem noPh_len {W : List (List UInt8)} (p : Int) (h : W.length ≠ 4) : NoPh W p := by
  intro t _ _ e
  rw [e] at h
  exact h rfl

theorem noPh_word {W : List (List UInt8)} {p : Int} {i : Nat} (hi : i < 4) (h : ∀ x, ¬ OkW W p i x) : NoPh W p := by
  intro t ht hp e
  obtain ⟨h0, h1, h2, h3⟩ := words_ok ht
  rw [← e, hp] at h0 h1 h2 h3
  have hc : i = 0 ∨ i = 1 ∨ i = 2 ∨ i = 3 := by omega
  rcases hc with rfl | rfl | rfl | rfl
  · exact h _ h0
  · exact h _ h1
  · exact h _ h2
  · exact h _ h3

theorem okW_inj {W : List (List UInt8)} {p : Int} {i : Nat} {x y : Int} (h : OkW W p i x) (h' : OkW W p i y) : x = y := by
  obtain ⟨hd, wd, e1, e2, e3, _⟩ := h
  obtain ⟨hd', wd', f1, f2, f3, _⟩ := h'
  rw [e1] at f1
  rw [e2] at f2
  injection f1 with f1
  injection f2 with f2
  rw [← f1, ← f2, e3] at f3
  exact itoa_inj (List.append_cancel_left f3)

theorem noPh_tag {W : List (List UInt8)} {p a b r c : Int} (h0 : OkW W p 0 a) (h1 : OkW W p 1 b) (h2 : OkW W p 2 r) (h3 : OkW W p 3 c) (h : ¬ tagOk ⟨a, b, p, r, c⟩) : NoPh W p := by
  intro t ht hp e
  obtain ⟨g0, g1, g2, g3⟩ := words_ok ht
  rw [← e, hp] at g0 g1 g2 g3
  apply h
  rw [okW_inj h0 g0, okW_inj h1 g1, okW_inj h2 g2, okW_inj h3 g3, ← hp]
  exact ht

theorem words_of {W : List (List UInt8)} {p a b r c : Int} (hl : W.length = 4) (h0 : OkW W p 0 a) (h1 : OkW W p 1 b) (h2 : OkW W p 2 r) (h3 : OkW W p 3 c) : W = tagWords ⟨a, b, p, r, c⟩ := by
  obtain ⟨_, w0, e0, f0, g0, _⟩ := h0
  obtain ⟨_, w1, e1, f1, g1, _⟩ := h1
  obtain ⟨_, w2, e2, f2, g2, _⟩ := h2
  obtain ⟨_, w3, e3, f3, g3, _⟩ := h3
  simp [headL] at e0 e1 e2 e3
  match W, hl with
  | [x0, x1, x2, x3], _ =>
    simp at f0 f1 f2 f3
    unfold tagWords
    rw [f0, f1, f2, f3, g0, g1, g2, g3, ← e0, ← e1, ← e2, ← e3]
    rfl

theorem prefix_app (h d : List UInt8) : Lib.hasPrefix (h ++ d) h = true ∧ Lib.trimPrefix (h ++ d) h = d := by
  have e : Lib.hasPrefix (h ++ d) h = true := by simp [Lib.hasPrefix]
  refine ⟨e, ?_⟩
  unfold Lib.trimPrefix
  rw [e]
  simp
theorem prefix_of {w h : List UInt8} (e : Lib.hasPrefix w h = true) : w = h ++ Lib.trimPrefix w h := by
  have e' := e
  unfold Lib.trimPrefix
  rw [e]
  simp only [if_true]
  simp [Lib.hasPrefix] at e'
  obtain ⟨d, rfl⟩ := e'
  simp

/-- What CutPrefix and Natural say of a word. -/
theorem word_yes {W : List (List UInt8)} {p : Int} {i : Nat} {hd wd : List UInt8} (h1 : (headL p)[i]? = some hd) (h2 : W[i]? = some wd) (hp : Lib.hasPrefix wd hd = true) (hn : (natS (Lib.trimPrefix wd hd) 1048575).2 = true) :
    OkW W p i (natS (Lib.trimPrefix wd hd) 1048575).1 := by
  refine ⟨hd, wd, h1, h2, ?_⟩
  have hin := numS_in (Lib.trimPrefix wd hd)
  unfold natS at hn ⊢
  split at hn
  · rename_i hc
    rw [if_pos hc]
    have := hin.2.1 hc.1
    exact ⟨by rw [← this]; exact prefix_of hp, hc.2.1, hc.2.2⟩
  · cases hn
theorem word_no {W : List (List UInt8)} {p : Int} {i : Nat} {hd wd : List UInt8} (h1 : (headL p)[i]? = some hd) (h2 : W[i]? = some wd) (h : Lib.hasPrefix wd hd = false ∨ (natS (Lib.trimPrefix wd hd) 1048575).2 = false) :
    ∀ x, ¬ OkW W p i x := by
  rintro x ⟨hd', wd', e1, e2, e3, hx0, hx1⟩
  rw [h1] at e1
  rw [h2] at e2
  injection e1 with e1
  injection e2 with e2
  subst e1 e2
  obtain ⟨f1, f2⟩ := prefix_app hd (Lib.itoa x)
  rw [e3] at h
  rcases h with h | h
  · rw [f1] at h; cases h
  · rw [f2] at h
    unfold natS at h
    rw [numS_yes (x := x) (by unfold In64; omega) rfl, if_pos ⟨rfl, hx0, hx1⟩] at h
    cases h

theorem natS_in (l : List UInt8) (m : Int) : In64 (natS l m).1 := by
  unfold natS
  split
  · exact (numS_in l).1
  · unfold In64; omega

theorem intsA_set (L : List Int) (i : Nat) (x : Int) : (intsA L).setIfInBounds i (.int .i64 x) = intsA (L.set i x) := by
  simp [intsA, List.map_set]

theorem size_mk (l : List UInt8) : (⟨l.toArray⟩ : ByteArray).size = l.length := by simp [ByteArray.size]

theorem headB_at {p : Int} {i : Nat} {hd : List UInt8} (h : (headL p)[i]? = some hd) : (headB p)[i]? = some (.string ⟨hd.toArray⟩) := by
  match i, h with
  | 0, h => simp [headL] at h; subst h; rfl
  | 1, h => simp [headL] at h; subst h; rfl
  | 2, h => simp [headL] at h; subst h; rfl
  | 3, h => simp [headL] at h; subst h; rfl
  | i + 4, h => simp [headL] at h

set_option maxRecDepth 100000 in
set_option maxHeartbeats 4000000 in
theorem tagParse_any (s : ByteArray) (B : Nat) (w : World) (hs : s.size ≤ 1048576) (hp : Pow B w) (he : Errs B w) (hm : MaxL B w) (hB : B ≤ w.heap.size) :
    Calls Tryd.prog 42 #[.string s] w fun e w' => e = .returned (.tuple #[tgV (tagS s.data.toList).1, .bool (tagS s.data.toList).2]) ∧ Below w.heap.size w w' := by
  have HB0 := Lib.hid ((Below.refl w.heap.size w).alloc (Nat.le_refl _) (.cells #[.int .i64 0, .int .i64 0, .int .i64 0, .int .i64 0, .int .i64 0] 23))
  have HZ0 := Lib.hid (heap_alloc_new w (.cells #[.int .i64 0, .int .i64 0, .int .i64 0, .int .i64 0, .int .i64 0] 23))
  have HS := Lib.hid (split_any s 46 B (w.alloc (.cells #[.int .i64 0, .int .i64 0, .int .i64 0, .int .i64 0, .int .i64 0] 23)) hs (hm.on (HB0.out.mono hB)))
  have HC := Lib.hid (fun W (hW : Below w.heap.size w W) (d : ByteArray) (hd : d.size ≤ s.size) => natural_any d 1048575 B W (by omega) (hp.on (hW.mono hB)) (he.on (hW.mono hB)) (Nat.le_trans hB hW.size) (by unfold In64; omega))
  have HH := Lib.hid (fun (k : Int) W => heads_any k W)
  have HLen := Lib.hid (len_cutAt 46 s.data.toList)
  have HWT := Lib.hid (fun (t : Tg) (ht : tagOk t) (h : cutAt 46 s.data.toList = tagWords t) => tagS_yes (l := s.data.toList) ht (words_text h))
  have HNO := Lib.hid (show (∀ p : Int, 0 ≤ p → p < 2 → NoPh (cutAt 46 s.data.toList) p) → tagS s.data.toList = (tg0, false) from fun h => tagS_no fun t ht e => h t.p ht.2.2.1.1 ht.2.2.1.2 t ht rfl (by rw [e, tag_words]))
  have hsl : s.data.toList.length = s.size := Array.length_toList
  have HSL := Lib.hid hsl
  clear hs hp he hm hB hsl
  generalize tagS s.data.toList = TS at HWT HNO ⊢
  go_enter Tryd.func42, Tryd.ntmps42
  go_wp2_with fail
  go_step3
  go_wp2_with fail
  (with_reducible refine HS.out.mono ?_)
  rintro e w1 ⟨ws, hws, rfl, hw1⟩
  rw [hw1]
  have HG1 := Lib.hid (blk_new (show (w.alloc (.cells #[.int .i64 0, .int .i64 0, .int .i64 0, .int .i64 0, .int .i64 0] 23)).heap.size = w.heap.size + 1 by simp) (.cells (ws.map Value.string).toArray 9))
  have HZ1 := Lib.hid (blk_alloc HZ0.out (.cells (ws.map Value.string).toArray 9))
  have HB1 := Lib.hid (HB0.out.alloc (by simp) (.cells (ws.map Value.string).toArray 9))
  clear hw1 HS HZ0 HB0
  have HWS := Lib.hid hws
  clear hws
  obtain ⟨n, hn⟩ : ∃ n, ws.length = n := ⟨_, rfl⟩
  rw [hn]
  have H4 := Lib.hid hn
  clear hn
  by_cases h4 : n = 4
  · subst h4
    go_wp2_with fail
    go_step3
    go_wp2_with fail
    go_loopw [17] (fun i wr => ∃ k : Nat, k ≤ 2 ∧ i = .int .i64 k ∧ Hid (∀ p : Int, 0 ≤ p → p < k → NoPh (cutAt 46 s.data.toList) p) ∧ Hid (wr.heap[w.heap.size]? = some (.cells #[.int .i64 0, .int .i64 0, .int .i64 0, .int .i64 0, .int .i64 0] 23 (0, 0))) ∧ Hid (wr.heap[w.heap.size + 1]? = some (.cells (ws.map Value.string).toArray 9 (0, 0))) ∧ Hid (Below w.heap.size w wr)) (fun i _ => 2 - (intOf i).toNat)
    case atStart => exact ⟨0, by decide, rfl, Lib.hid (fun p h1 h2 => by omega), HZ1, HG1, HB1⟩
    case round =>
      obtain ⟨k, hk, rfl, HNP, HZr, HGr, HBr⟩ := hrel
      by_cases hlt : k < 2
      · go_wp2_with fail
        (with_reducible refine (HH.out k _).mono ?_)
        rintro e w2 ⟨rfl, hb2⟩
        have hw2 := hb2.size
        have hw3 := blk_lt HGr.out
        have HB2 := Lib.hid (((HBr.out.trans (hb2.mono HBr.out.size)).alloc (Nat.le_trans HBr.out.size hw2) (.cells #[.string ⟨#[115]⟩, .string ⟨#[98]⟩, .string ⟨(phaseL k).toArray⟩, .string ⟨#[99]⟩] 88)).alloc (by have := HBr.out.size; simp; omega) (.cells #[.int .i64 0, .int .i64 0, .int .i64 0, .int .i64 0] 90))
        have HZ2 := Lib.hid (blk_alloc (blk_alloc (blk_below HZr.out hb2 (blk_lt HZr.out)) (.cells #[.string ⟨#[115]⟩, .string ⟨#[98]⟩, .string ⟨(phaseL k).toArray⟩, .string ⟨#[99]⟩] 88)) (.cells #[.int .i64 0, .int .i64 0, .int .i64 0, .int .i64 0] 90))
        have HG2 := Lib.hid (blk_alloc (blk_alloc (blk_below HGr.out hb2 (blk_lt HGr.out)) (.cells #[.string ⟨#[115]⟩, .string ⟨#[98]⟩, .string ⟨(phaseL k).toArray⟩, .string ⟨#[99]⟩] 88)) (.cells #[.int .i64 0, .int .i64 0, .int .i64 0, .int .i64 0] 90))
        have HH2 := Lib.hid (blk_alloc (heap_alloc_new w2 (.cells #[.string ⟨#[115]⟩, .string ⟨#[98]⟩, .string ⟨(phaseL k).toArray⟩, .string ⟨#[99]⟩] 88)) (.cells #[.int .i64 0, .int .i64 0, .int .i64 0, .int .i64 0] 90))
        have HN2 := Lib.hid (blk_new (show (w2.alloc (.cells #[.string ⟨#[115]⟩, .string ⟨#[98]⟩, .string ⟨(phaseL k).toArray⟩, .string ⟨#[99]⟩] 88)).heap.size = w2.heap.size + 1 by simp) (.cells #[.int .i64 0, .int .i64 0, .int .i64 0, .int .i64 0] 90))
        clear hb2 HBr HZr HGr
        go_wp2_with fail
        go_loopw [8, 9, 10, 11, 12, 13, 27] (fun _ _ _ _ _ _ i wj => ∃ (j : Nat) (L : List Int), j ≤ 4 ∧ i = .int .i64 j ∧ L.length = 4 ∧ Hid (∀ i x, i < j → L[i]? = some x → OkW (cutAt 46 s.data.toList) k i x) ∧ Hid (wj.heap[w2.heap.size + 1]? = some (.cells (intsA L) 90 (0, 0))) ∧ Hid (wj.heap[w2.heap.size]? = some (.cells #[.string ⟨#[115]⟩, .string ⟨#[98]⟩, .string ⟨(phaseL k).toArray⟩, .string ⟨#[99]⟩] 88 (0, 0))) ∧ Hid (wj.heap[w.heap.size]? = some (.cells #[.int .i64 0, .int .i64 0, .int .i64 0, .int .i64 0, .int .i64 0] 23 (0, 0))) ∧ Hid (wj.heap[w.heap.size + 1]? = some (.cells (ws.map Value.string).toArray 9 (0, 0))) ∧ Hid (Below w.heap.size w wj)) (fun _ _ _ _ _ _ i _ => 4 - (intOf i).toNat)
        case atStart => exact ⟨0, [0, 0, 0, 0], by decide, rfl, rfl, Lib.hid (fun _ _ h => absurd h (Nat.not_lt_zero _)), HN2, HH2, HZ2, HG2, HB2⟩
        case round =>
          obtain ⟨j, L, hj, rfl, hL, HOK, HNj, HHj, HZj, HGj, HBj⟩ := hrel
          by_cases hj4 : j < 4
          · obtain ⟨wd, hwd⟩ := get_some ws j (by have := H4.out; omega)
            obtain ⟨hd, hhd⟩ := get_some (headL k) j (by simp [headL]; omega)
            have hwd2 : (cutAt 46 s.data.toList)[j]? = some wd.data.toList := by rw [← HWS.out, List.getElem?_map, hwd]; rfl
            have c1 : wr.cell? ⟨w.heap.size + 1, j, none⟩ = some (.string wd) := by rw [blk_cell HGj.out]; simp [hwd]
            have c2 : wr.cell? ⟨w2.heap.size, j, none⟩ = some (.string ⟨hd.toArray⟩) := (blk_cell HHj.out j).trans (headB_at hhd)
            obtain ⟨lj, hlj⟩ := get_some L j (by omega)
            have c3 := intsA_cell HNj.out hlj
            have z3 := blk_frozen HNj.out j
            have l1 := blk_lt HGj.out
            have l2 := blk_lt HHj.out
            have l3 := blk_lt HNj.out
            have hle : wd.data.toList.length ≤ s.size := by
              rw [← HSL.out]
              exact HLen.out _ (List.mem_of_getElem? hwd2)
            have htl : (Lib.trimPrefix wd.data.toList hd).length ≤ wd.data.toList.length := by
              unfold Lib.trimPrefix
              split
              · rw [List.length_drop]; omega
              · omega
            have CP : ∀ W, Calls Tryd.prog 68 #[.string wd, .string ⟨hd.toArray⟩] W fun e w' => e = .returned (.tuple #[.string ⟨(Lib.trimPrefix wd.data.toList hd).toArray⟩, .bool (Lib.hasPrefix wd.data.toList hd)]) ∧ W = w' := fun W =>
              (Tryd.strings_CutPrefix wd ⟨hd.toArray⟩ W).mono fun e w' ⟨he, hw⟩ => ⟨he, hw.symm⟩
            have CN : ∀ W, Below w.heap.size w W → Calls Tryd.prog 69 #[.string ⟨(Lib.trimPrefix wd.data.toList hd).toArray⟩, .int .i64 1048575] W (GivesNat (Lib.trimPrefix wd.data.toList hd) 1048575 W) := fun W hW =>
              HC.out W hW ⟨(Lib.trimPrefix wd.data.toList hd).toArray⟩ (by rw [size_mk]; omega)
            have HYE := Lib.hid (word_yes (W := cutAt 46 s.data.toList) (p := k) hhd hwd2)
            have HNE := Lib.hid (word_no (W := cutAt 46 s.data.toList) (p := k) hhd hwd2)
            have hni := natS_in (Lib.trimPrefix wd.data.toList hd) 1048575
            unfold GivesNat at CN
            generalize natS (Lib.trimPrefix wd.data.toList hd) 1048575 = nx at CN HYE HNE hni
            generalize Lib.hasPrefix wd.data.toList hd = hpb at CP HYE HNE
            obtain ⟨dg, hdg⟩ : ∃ dg : ByteArray, ⟨(Lib.trimPrefix wd.data.toList hd).toArray⟩ = dg := ⟨_, rfl⟩
            rw [hdg] at CP CN
            have HCP := Lib.hid CP
            have HCN := Lib.hid CN
            clear CP CN hle htl hwd2 hwd hlj hdg hhd
            obtain ⟨x, is⟩ := nx
            dsimp only at HCN HYE HNE hni
            cases hpb
            · have HF := Lib.hid (HNE.out (.inl rfl))
              clear HYE HNE
              cases is
              · go_wp2_with fail
                (with_reducible refine (HCP.out _).mono ?_)
                rintro e w8 ⟨rfl, rfl⟩
                go_wp2_with fail
                (with_reducible refine (HCN.out _ HBj.out).mono ?_)
                rintro e w9 ⟨rfl, hb9⟩
                have HB9 := Lib.hid (HBj.out.trans (hb9.mono HBj.out.size))
                have HZ9 := Lib.hid (blk_below HZj.out hb9 (blk_lt HZj.out))
                have HG9 := Lib.hid (blk_below HGj.out hb9 (blk_lt HGj.out))
                clear hb9
                go_wp2_with fail
                go_roundw
                case rel =>
                  refine ⟨k + 1, by omega, by go_num, Lib.hid (fun p h1 h2 => ?_), HZ9, HG9, HB9⟩
                  by_cases hpk : p = k
                  · rw [hpk]; exact noPh_word hj4 HF.out
                  · exact HNP.out p h1 (by omega)
                case measure => simp [intOf]; omega
              · go_wp2_with fail
                (with_reducible refine (HCP.out _).mono ?_)
                rintro e w8 ⟨rfl, rfl⟩
                go_wp2_with fail
                (with_reducible refine (HCN.out _ HBj.out).mono ?_)
                rintro e w9 ⟨rfl, hb9⟩
                have HB9 := Lib.hid (HBj.out.trans (hb9.mono HBj.out.size))
                have HZ9 := Lib.hid (blk_below HZj.out hb9 (blk_lt HZj.out))
                have HG9 := Lib.hid (blk_below HGj.out hb9 (blk_lt HGj.out))
                clear hb9
                go_wp2_with fail
                go_roundw
                case rel =>
                  refine ⟨k + 1, by omega, by go_num, Lib.hid (fun p h1 h2 => ?_), HZ9, HG9, HB9⟩
                  by_cases hpk : p = k
                  · rw [hpk]; exact noPh_word hj4 HF.out
                  · exact HNP.out p h1 (by omega)
                case measure => simp [intOf]; omega
            · cases is
              · have HF := Lib.hid (HNE.out (.inr rfl))
                clear HYE HNE
                go_wp2_with fail
                (with_reducible refine (HCP.out _).mono ?_)
                rintro e w8 ⟨rfl, rfl⟩
                go_wp2_with fail
                (with_reducible refine (HCN.out _ HBj.out).mono ?_)
                rintro e w9 ⟨rfl, hb9⟩
                have HB9 := Lib.hid (HBj.out.trans (hb9.mono HBj.out.size))
                have HZ9 := Lib.hid (blk_below HZj.out hb9 (blk_lt HZj.out))
                have HG9 := Lib.hid (blk_below HGj.out hb9 (blk_lt HGj.out))
                clear hb9
                go_wp2_with fail
                go_roundw
                case rel =>
                  refine ⟨k + 1, by omega, by go_num, Lib.hid (fun p h1 h2 => ?_), HZ9, HG9, HB9⟩
                  by_cases hpk : p = k
                  · rw [hpk]; exact noPh_word hj4 HF.out
                  · exact HNP.out p h1 (by omega)
                case measure => simp [intOf]; omega
              · have HF := Lib.hid (HYE.out rfl rfl)
                clear HYE HNE
                go_wp2_with fail
                (with_reducible refine (HCP.out _).mono ?_)
                rintro e w8 ⟨rfl, rfl⟩
                go_wp2_with fail
                (with_reducible refine (HCN.out _ HBj.out).mono ?_)
                rintro e w9 ⟨rfl, hb9⟩
                have HB9 := Lib.hid (HBj.out.trans (hb9.mono HBj.out.size))
                have HZ9 := Lib.hid (blk_below HZj.out hb9 (blk_lt HZj.out))
                have HG9 := Lib.hid (blk_below HGj.out hb9 (blk_lt HGj.out))
                have HH9 := Lib.hid (blk_below HHj.out hb9 (blk_lt HHj.out))
                have HN9 := Lib.hid (blk_below HNj.out hb9 (blk_lt HNj.out))
                clear hb9 c1 c2 c3 z3
                obtain ⟨lj, hlj⟩ := get_some L j (by omega)
                have c3 := intsA_cell HN9.out hlj
                have z3 := blk_frozen HN9.out j
                have l4 := blk_lt HN9.out
                clear hlj
                go_wp2_with fail
                have hs := blk_set HN9.out j (.int .i64 x)
                rw [intsA_set] at hs
                have hw2b : w.heap.size + 2 ≤ w2.heap.size := by omega
                go_roundw
                case rel =>
                  refine ⟨j + 1, L.set j x, by omega, by go_num, by simp [hL], Lib.hid (fun i y hi hy => ?_), Lib.hid hs, Lib.hid (blk_far HH9.out (by simp) _), Lib.hid (blk_far HZ9.out (by simp; omega) _), Lib.hid (blk_far HG9.out (by simp; omega) _), Lib.hid (HB9.out.setCell (by simp; omega) _)⟩
                  rcases Nat.lt_or_ge i j with h | h
                  · rw [List.getElem?_set_ne (by omega)] at hy
                    exact HOK.out i y h hy
                  · have hij : i = j := by omega
                    subst hij
                    rw [List.getElem?_set_self (by omega)] at hy
                    injection hy with hy
                    rw [← hy]
                    exact HF.out
                case measure => simp [intOf]; omega
          · have hje : j = 4 := by omega
            subst hje
            obtain ⟨a, b, r, c, rfl⟩ : ∃ a b r c, L = [a, b, r, c] := by
              match L, hL with
              | [a, b, r, c], _ => exact ⟨a, b, r, c, rfl⟩
            have o0 := HOK.out 0 a (by decide) rfl
            have o1 := HOK.out 1 b (by decide) rfl
            have o2 := HOK.out 2 r (by decide) rfl
            have o3 := HOK.out 3 c (by decide) rfl
            have HW := Lib.hid (words_of (by rw [← HWS.out, List.length_map]; exact H4.out) o0 o1 o2 o3)
            have HNT := Lib.hid (noPh_tag o0 o1 o2 o3)
            clear o0 o1 o2 o3
            have n0 := intsA_cell HNj.out (k := 0) rfl
            have n1 := intsA_cell HNj.out (k := 1) rfl
            have n2 := intsA_cell HNj.out (k := 2) rfl
            have n3 := intsA_cell HNj.out (k := 3) rfl
            have l3 := blk_lt HNj.out
            have HR := Lib.hid (fun W => right_any ⟨a, b, k, r, c⟩ W)
            by_cases hok : tagOk ⟨a, b, k, r, c⟩
            · have HS := Lib.hid (HWT.out _ hok HW.out)
              rw [decide_eq_true hok] at HR
              unfold tgV at HR
              dsimp only at HR
              clear hok
              go_wp2_with fail
              (with_reducible refine (HR.out _).mono ?_)
              rintro e w9 ⟨rfl, hb9⟩
              have HB9 := Lib.hid ((HBj.out.alloc HBj.out.size (.cells #[.int .i64 a, .int .i64 b, .int .i64 k, .int .i64 r, .int .i64 c] 23)).trans (hb9.mono (Nat.le_trans HBj.out.size (by simp))))
              have HZ9 := Lib.hid (blk_below (blk_alloc HZj.out (.cells #[.int .i64 a, .int .i64 b, .int .i64 k, .int .i64 r, .int .i64 c] 23)) hb9 (by have := blk_lt HZj.out; simp; omega))
              have HX9 := Lib.hid (blk_below (heap_alloc_new wr (.cells #[.int .i64 a, .int .i64 b, .int .i64 k, .int .i64 r, .int .i64 c] 23)) hb9 (by simp))
              clear hb9 n0 n1 n2 n3 l3
              have x0 := blk_cell HX9.out 0
              have x1 := blk_cell HX9.out 1
              have x2 := blk_cell HX9.out 2
              have x3 := blk_cell HX9.out 3
              have x4 := blk_cell HX9.out 4
              have d0 := blk_cell HZ9.out 0
              have d1 := blk_cell HZ9.out 1
              have d2 := blk_cell HZ9.out 2
              have d3 := blk_cell HZ9.out 3
              have d4 := blk_cell HZ9.out 4
              have y0 := blk_frozen HZ9.out 0
              have y1 := blk_frozen HZ9.out 1
              have y2 := blk_frozen HZ9.out 2
              have y3 := blk_frozen HZ9.out 3
              have y4 := blk_frozen HZ9.out 4
              have ly := blk_lt HZ9.out
              go_wp2_with fail
              have s0 := blk_set HZ9.out 0 (.int .i64 a)
              have s1 := blk_set s0 1 (.int .i64 b)
              have s2 := blk_set s1 2 (.int .i64 k)
              have s3 := blk_set s2 3 (.int .i64 r)
              have s4 := blk_set s3 4 (.int .i64 c)
              have hbW := (((((HB9.out.setCell (p := ⟨w.heap.size, 0, none⟩) (by simp) (.int .i64 a)).setCell (p := ⟨w.heap.size, 1, none⟩) (by simp) (.int .i64 b)).setCell (p := ⟨w.heap.size, 2, none⟩) (by simp) (.int .i64 k)).setCell (p := ⟨w.heap.size, 3, none⟩) (by simp) (.int .i64 r)).setCell (p := ⟨w.heap.size, 4, none⟩) (by simp) (.int .i64 c))
              simp only [Exit.noGoto]
              show bodyPost Tryd.prog Tryd.f42 _ Exit.ret _ _
              generalize (World.setCell (World.setCell (World.setCell (World.setCell (World.setCell w9 ⟨w.heap.size, 0, none⟩ (.int .i64 a)) ⟨w.heap.size, 1, none⟩ (.int .i64 b)) ⟨w.heap.size, 2, none⟩ (.int .i64 k)) ⟨w.heap.size, 3, none⟩ (.int .i64 r)) ⟨w.heap.size, 4, none⟩ (.int .i64 c)) = W at s4 hbW ⊢
              clear s0 s1 s2 s3
              have k0 := blk_cell s4 0
              have k1 := blk_cell s4 1
              have k2 := blk_cell s4 2
              have k3 := blk_cell s4 3
              have k4 := blk_cell s4 4
              refine bodyPost_ret (v := .tuple #[.agg #[.int .i64 a, .int .i64 b, .int .i64 k, .int .i64 r, .int .i64 c], .bool true]) ?_ rfl ⟨by rw [HS.out]; rfl, hbW⟩
              simp [results, Tryd.results42, go_sem, k0, k1, k2, k3, k4]
            · have HF := Lib.hid (HNT.out hok)
              rw [decide_eq_false hok] at HR
              unfold tgV at HR
              dsimp only at HR
              clear hok
              go_wp2_with fail
              (with_reducible refine (HR.out _).mono ?_)
              rintro e w9 ⟨rfl, hb9⟩
              have HB9 := Lib.hid ((HBj.out.alloc HBj.out.size (.cells #[.int .i64 a, .int .i64 b, .int .i64 k, .int .i64 r, .int .i64 c] 23)).trans (hb9.mono (Nat.le_trans HBj.out.size (by simp))))
              have HZ9 := Lib.hid (blk_below (blk_alloc HZj.out (.cells #[.int .i64 a, .int .i64 b, .int .i64 k, .int .i64 r, .int .i64 c] 23)) hb9 (by have := blk_lt HZj.out; simp; omega))
              have HG9 := Lib.hid (blk_below (blk_alloc HGj.out (.cells #[.int .i64 a, .int .i64 b, .int .i64 k, .int .i64 r, .int .i64 c] 23)) hb9 (by have := blk_lt HGj.out; simp; omega))
              clear hb9 n0 n1 n2 n3 l3
              go_wp2_with fail
              go_roundw
              case rel =>
                refine ⟨k + 1, by omega, by go_num, Lib.hid (fun p h1 h2 => ?_), HZ9, HG9, HB9⟩
                by_cases hpk : p = k
                · rw [hpk]; exact HF.out
                · exact HNP.out p h1 (by omega)
              case measure => simp [intOf]; omega
      · have hke : k = 2 := by omega
        subst hke
        have HS := Lib.hid (HNO.out HNP.out)
        have d0 := blk_cell HZr.out 0
        have d1 := blk_cell HZr.out 1
        have d2 := blk_cell HZr.out 2
        have d3 := blk_cell HZr.out 3
        have d4 := blk_cell HZr.out 4
        have y0 := blk_frozen HZr.out 0
        have y1 := blk_frozen HZr.out 1
        have y2 := blk_frozen HZr.out 2
        have y3 := blk_frozen HZr.out 3
        have y4 := blk_frozen HZr.out 4
        have ly := blk_lt HZr.out
        go_wp2_with fail
        have s0 := blk_set HZr.out 0 (.int .i64 0)
        have s1 := blk_set s0 1 (.int .i64 0)
        have s2 := blk_set s1 2 (.int .i64 0)
        have s3 := blk_set s2 3 (.int .i64 0)
        have s4 := blk_set s3 4 (.int .i64 0)
        have hbW := (((((HBr.out.setCell (p := ⟨w.heap.size, 0, none⟩) (by simp) (.int .i64 0)).setCell (p := ⟨w.heap.size, 1, none⟩) (by simp) (.int .i64 0)).setCell (p := ⟨w.heap.size, 2, none⟩) (by simp) (.int .i64 0)).setCell (p := ⟨w.heap.size, 3, none⟩) (by simp) (.int .i64 0)).setCell (p := ⟨w.heap.size, 4, none⟩) (by simp) (.int .i64 0))
        simp only [Exit.noGoto]
        show bodyPost Tryd.prog Tryd.f42 _ Exit.ret _ _
        generalize (World.setCell (World.setCell (World.setCell (World.setCell (World.setCell wr ⟨w.heap.size, 0, none⟩ (.int .i64 0)) ⟨w.heap.size, 1, none⟩ (.int .i64 0)) ⟨w.heap.size, 2, none⟩ (.int .i64 0)) ⟨w.heap.size, 3, none⟩ (.int .i64 0)) ⟨w.heap.size, 4, none⟩ (.int .i64 0)) = W at s4 hbW ⊢
        clear s0 s1 s2 s3
        have k0 := blk_cell s4 0
        have k1 := blk_cell s4 1
        have k2 := blk_cell s4 2
        have k3 := blk_cell s4 3
        have k4 := blk_cell s4 4
        refine bodyPost_ret (v := .tuple #[.agg #[.int .i64 0, .int .i64 0, .int .i64 0, .int .i64 0, .int .i64 0], .bool false]) ?_ rfl ⟨by rw [HS.out]; rfl, hbW⟩
        simp [results, Tryd.results42, go_sem, k0, k1, k2, k3, k4]
  · have HS := Lib.hid (HNO.out (fun p _ _ => noPh_len p (by rw [← HWS.out, List.length_map, H4.out]; exact h4)))
    have e4 : ((n : Int) != 4) = true := by simp; omega
    clear h4
    go_wp2_with fail
    go_step3
    go_wp2_with fail
    go_loopw [17] (fun i wr => ∃ k : Nat, k ≤ 2 ∧ i = .int .i64 k ∧ Hid (∀ p : Int, 0 ≤ p → p < k → NoPh (cutAt 46 s.data.toList) p) ∧ Hid (wr.heap[w.heap.size]? = some (.cells #[.int .i64 0, .int .i64 0, .int .i64 0, .int .i64 0, .int .i64 0] 23 (0, 0))) ∧ Hid (wr.heap[w.heap.size + 1]? = some (.cells (ws.map Value.string).toArray 9 (0, 0))) ∧ Hid (Below w.heap.size w wr)) (fun i _ => 2 - (intOf i).toNat)
    case atStart => exact ⟨0, by decide, rfl, Lib.hid (fun p h1 h2 => by omega), HZ1, HG1, HB1⟩
    case round =>
      obtain ⟨k, hk, rfl, HNP, HZr, HGr, HBr⟩ := hrel
      by_cases hlt : k < 2
      · go_wp2_with fail
        (with_reducible refine (HH.out k _).mono ?_)
        rintro e w2 ⟨rfl, hb2⟩
        have hw2 := hb2.size
        have hw3 := blk_lt HGr.out
        have HB2 := Lib.hid (((HBr.out.trans (hb2.mono HBr.out.size)).alloc (Nat.le_trans HBr.out.size hw2) (.cells #[.string ⟨#[115]⟩, .string ⟨#[98]⟩, .string ⟨(phaseL k).toArray⟩, .string ⟨#[99]⟩] 88)).alloc (by have := HBr.out.size; simp; omega) (.cells #[.int .i64 0, .int .i64 0, .int .i64 0, .int .i64 0] 90))
        have HZ2 := Lib.hid (blk_alloc (blk_alloc (blk_below HZr.out hb2 (blk_lt HZr.out)) (.cells #[.string ⟨#[115]⟩, .string ⟨#[98]⟩, .string ⟨(phaseL k).toArray⟩, .string ⟨#[99]⟩] 88)) (.cells #[.int .i64 0, .int .i64 0, .int .i64 0, .int .i64 0] 90))
        have HG2 := Lib.hid (blk_alloc (blk_alloc (blk_below HGr.out hb2 (blk_lt HGr.out)) (.cells #[.string ⟨#[115]⟩, .string ⟨#[98]⟩, .string ⟨(phaseL k).toArray⟩, .string ⟨#[99]⟩] 88)) (.cells #[.int .i64 0, .int .i64 0, .int .i64 0, .int .i64 0] 90))
        have HH2 := Lib.hid (blk_alloc (heap_alloc_new w2 (.cells #[.string ⟨#[115]⟩, .string ⟨#[98]⟩, .string ⟨(phaseL k).toArray⟩, .string ⟨#[99]⟩] 88)) (.cells #[.int .i64 0, .int .i64 0, .int .i64 0, .int .i64 0] 90))
        have HN2 := Lib.hid (blk_new (show (w2.alloc (.cells #[.string ⟨#[115]⟩, .string ⟨#[98]⟩, .string ⟨(phaseL k).toArray⟩, .string ⟨#[99]⟩] 88)).heap.size = w2.heap.size + 1 by simp) (.cells #[.int .i64 0, .int .i64 0, .int .i64 0, .int .i64 0] 90))
        clear hb2 HBr HZr HGr
        have d0 := blk_cell HZ2.out 0
        have d1 := blk_cell HZ2.out 1
        have d2 := blk_cell HZ2.out 2
        have d3 := blk_cell HZ2.out 3
        have d4 := blk_cell HZ2.out 4
        have y0 := blk_frozen HZ2.out 0
        have y1 := blk_frozen HZ2.out 1
        have y2 := blk_frozen HZ2.out 2
        have y3 := blk_frozen HZ2.out 3
        have y4 := blk_frozen HZ2.out 4
        have ly := blk_lt HZ2.out
        go_wp2_with fail
        have s0 := blk_set HZ2.out 0 (.int .i64 0)
        have s1 := blk_set s0 1 (.int .i64 0)
        have s2 := blk_set s1 2 (.int .i64 0)
        have s3 := blk_set s2 3 (.int .i64 0)
        have s4 := blk_set s3 4 (.int .i64 0)
        have hbW := (((((HB2.out.setCell (p := ⟨w.heap.size, 0, none⟩) (by simp) (.int .i64 0)).setCell (p := ⟨w.heap.size, 1, none⟩) (by simp) (.int .i64 0)).setCell (p := ⟨w.heap.size, 2, none⟩) (by simp) (.int .i64 0)).setCell (p := ⟨w.heap.size, 3, none⟩) (by simp) (.int .i64 0)).setCell (p := ⟨w.heap.size, 4, none⟩) (by simp) (.int .i64 0))
        simp only [Exit.noGoto]
        show bodyPost Tryd.prog Tryd.f42 _ Exit.ret _ _
        generalize (World.setCell (World.setCell (World.setCell (World.setCell (World.setCell ((w2.alloc (.cells #[.string ⟨#[115]⟩, .string ⟨#[98]⟩, .string ⟨(phaseL k).toArray⟩, .string ⟨#[99]⟩] 88)).alloc (.cells #[.int .i64 0, .int .i64 0, .int .i64 0, .int .i64 0] 90)) ⟨w.heap.size, 0, none⟩ (.int .i64 0)) ⟨w.heap.size, 1, none⟩ (.int .i64 0)) ⟨w.heap.size, 2, none⟩ (.int .i64 0)) ⟨w.heap.size, 3, none⟩ (.int .i64 0)) ⟨w.heap.size, 4, none⟩ (.int .i64 0)) = W at s4 hbW ⊢
        clear s0 s1 s2 s3
        have k0 := blk_cell s4 0
        have k1 := blk_cell s4 1
        have k2 := blk_cell s4 2
        have k3 := blk_cell s4 3
        have k4 := blk_cell s4 4
        refine bodyPost_ret (v := .tuple #[.agg #[.int .i64 0, .int .i64 0, .int .i64 0, .int .i64 0, .int .i64 0], .bool false]) ?_ rfl ⟨by rw [HS.out]; rfl, hbW⟩
        simp [results, Tryd.results42, go_sem, k0, k1, k2, k3, k4]
      · have hke : k = 2 := by omega
        subst hke
        clear HNP
        have d0 := blk_cell HZr.out 0
        have d1 := blk_cell HZr.out 1
        have d2 := blk_cell HZr.out 2
        have d3 := blk_cell HZr.out 3
        have d4 := blk_cell HZr.out 4
        have y0 := blk_frozen HZr.out 0
        have y1 := blk_frozen HZr.out 1
        have y2 := blk_frozen HZr.out 2
        have y3 := blk_frozen HZr.out 3
        have y4 := blk_frozen HZr.out 4
        have ly := blk_lt HZr.out
        go_wp2_with fail
        have s0 := blk_set HZr.out 0 (.int .i64 0)
        have s1 := blk_set s0 1 (.int .i64 0)
        have s2 := blk_set s1 2 (.int .i64 0)
        have s3 := blk_set s2 3 (.int .i64 0)
        have s4 := blk_set s3 4 (.int .i64 0)
        have hbW := (((((HBr.out.setCell (p := ⟨w.heap.size, 0, none⟩) (by simp) (.int .i64 0)).setCell (p := ⟨w.heap.size, 1, none⟩) (by simp) (.int .i64 0)).setCell (p := ⟨w.heap.size, 2, none⟩) (by simp) (.int .i64 0)).setCell (p := ⟨w.heap.size, 3, none⟩) (by simp) (.int .i64 0)).setCell (p := ⟨w.heap.size, 4, none⟩) (by simp) (.int .i64 0))
        simp only [Exit.noGoto]
        show bodyPost Tryd.prog Tryd.f42 _ Exit.ret _ _
        generalize (World.setCell (World.setCell (World.setCell (World.setCell (World.setCell wr ⟨w.heap.size, 0, none⟩ (.int .i64 0)) ⟨w.heap.size, 1, none⟩ (.int .i64 0)) ⟨w.heap.size, 2, none⟩ (.int .i64 0)) ⟨w.heap.size, 3, none⟩ (.int .i64 0)) ⟨w.heap.size, 4, none⟩ (.int .i64 0)) = W at s4 hbW ⊢
        clear s0 s1 s2 s3
        have k0 := blk_cell s4 0
        have k1 := blk_cell s4 1
        have k2 := blk_cell s4 2
        have k3 := blk_cell s4 3
        have k4 := blk_cell s4 4
        refine bodyPost_ret (v := .tuple #[.agg #[.int .i64 0, .int .i64 0, .int .i64 0, .int .i64 0, .int .i64 0], .bool false]) ?_ rfl ⟨by rw [HS.out]; rfl, hbW⟩
        simp [results, Tryd.results42, go_sem, k0, k1, k2, k3, k4]

end Go.Proofs.YtajilipbnfpemaaDoor
