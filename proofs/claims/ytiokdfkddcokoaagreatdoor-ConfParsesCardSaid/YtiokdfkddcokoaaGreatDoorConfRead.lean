/- Walks: how the fields of a configuration are read. Conditions: the table of powers of ten, the two sentinels and the library's bound on a search read as listed. -/
import Derived.Test.YtiokdfkddcokoaaGreatDoorConfTextP
import Derived.Test.YtiokdfkddcokoaaGreatDoorDeciParse
import Derived.Test.YtiokdfkddcokoaaGreatDoorSplit
import Derived.Test.YtiokdfkddcokoaaGreatDoorRegion
namespace Go.Proofs.YtiokdfkddcokoaaGreatDoor
open Go.RowKit

/-- A cell that may be written. -/
def Open (w : World) (g k : Nat) : Prop := (∃ v, w.cell? ⟨g, k, none⟩ = some v) ∧ w.frozen? ⟨g, k, none⟩ = false
theorem Open.keeps {w W : World} {g k : Nat} (h : Open w g k) (hW : Keeps w W) : Open W g k := by
  obtain ⟨⟨v, hv⟩, hf⟩ := h
  exact ⟨⟨v, hW.cell hv⟩, (Below.frozen hW (p := ⟨g, k, none⟩) (World.block_lt_of_cell? w _ hv)).trans hf⟩

/-- A number has been read into a cell. -/
def ReadAt (w : World) (g k : Nat) (p : Int × Bool) (e : Ending) (w' : World) : Prop := ∃ w1, Below w.heap.size w w1 ∧ e = .returned (.bool p.2) ∧ w' = w1.setCell ⟨g, k, none⟩ (.int .i64 p.1)

set_option maxRecDepth 100000 in
set_option maxHeartbeats 4000000 in
theorem decRead_any (s : ByteArray) (hs : s.size ≤ 1048576) (b1 b2 g k : Nat) (most : Int) (hm : In64 most) (B : Nat) (w : World) (hp : Pow B w) (he : Errs B w) (hB : B ≤ w.heap.size) (h1 : w.cell? ⟨b1, 0, none⟩ = some (.pointer (some ⟨g, k, none⟩))) (h2 : w.cell? ⟨b2, 0, none⟩ = some (.int .i64 most)) (n1 : b1 ≠ g) (n2 : b2 ≠ g) (ho : Open w g k) :
    Calls Tryz.prog 48 #[.string s, .pointer (some ⟨b2, 0, none⟩), .pointer (some ⟨b1, 0, none⟩)] w (ReadAt w g k (natS s.data.toList most)) := by
  have HN := Lib.hid (fun W (hb : Keeps w W) => natural_any s most B W hs (hp.on (hb.mono hB)) (he.on (hb.mono hB)) (Nat.le_trans hB (Below.size hb)) hm)
  have HS := Lib.hid (fun W (hW : Keeps w W) => And.intro (hW.cell h1) (hW.cell h2))
  have HT := Lib.hid (fun W (hW : Keeps w W) u => And.intro ((World.cell?_setCell_other W ⟨g, k, none⟩ ⟨b1, 0, none⟩ u (fun e => n1 (by injection e with e1; exact e1.symm))).trans (hW.cell h1)) ((World.cell?_setCell_other W ⟨g, k, none⟩ ⟨b2, 0, none⟩ u (fun e => n2 (by injection e with e1; exact e1.symm))).trans (hW.cell h2)))
  have HO := Lib.hid (fun W (hW : Keeps w W) => ho.keeps hW)
  unfold GivesNat at HN
  generalize natS s.data.toList most = p at HN ⊢
  obtain ⟨x, ok⟩ := p
  dsimp only at HN
  have d1 := h1
  have d2 := h2
  clear h1 h2 hs hp he hB hm ho n1 n2
  go_enter Tryz.func48, Tryz.ntmps48
  go_wp2_with fail
  go_region_held3 (fun w' => w'.cell? ⟨b1, 0, none⟩ = some (.pointer (some ⟨g, k, none⟩)) ∧ w'.cell? ⟨b2, 0, none⟩ = some (.int .i64 most))
    (first
      | exact HT.out _ HB1.out _
      | exact HS.out _ HB1.out
      | exact HS.out _ (Keeps.self w))
    ((go_at_call 49
      (with_reducible refine (HN.out _ (Keeps.self w)).mono ?_)
      rintro e w1 ⟨rfl, hb⟩
      have HB1 := Lib.hid (show Keeps w w1 from Below.trans (Keeps.self w) hb)
      obtain ⟨⟨v, hv⟩, hf⟩ := HO.out _ HB1.out
      clear hb))
  go_wp2_with fail
  go_ret
  exact ⟨_, HB1.out, rfl, rfl⟩

set_option maxRecDepth 100000 in
set_option maxHeartbeats 4000000 in
theorem fraRead_any (s : ByteArray) (hs : s.size ≤ 1000) (b1 b2 g k : Nat) (q : Int) (B : Nat) (w : World) (hp : Pow B w) (he : Errs B w) (hx : MaxL B w) (hB : B ≤ w.heap.size) (h1 : w.cell? ⟨b1, 0, none⟩ = some (.pointer (some ⟨g, k, none⟩))) (h2 : w.cell? ⟨b2, 0, none⟩ = some (.pointer (some ⟨g, 1, none⟩))) (h3 : w.cell? ⟨g, 1, none⟩ = some (.int .i64 q)) (hk : k ≠ 1) (n1 : b1 ≠ g) (n2 : b2 ≠ g) (ho : Open w g k) :
    Calls Tryz.prog 54 #[.string s, .pointer (some ⟨b2, 0, none⟩), .pointer (some ⟨b1, 0, none⟩)] w (ReadAt w g k (parseS s.data.toList q)) := by
  have HN := Lib.hid (fun W (hb : Keeps w W) => parse_any s q B W hs (Nat.le_trans hB (Below.size hb)) (hp.on (hb.mono hB)) (he.on (hb.mono hB)) (hx.on (hb.mono hB)))
  have HS := Lib.hid (fun W (hW : Keeps w W) => And.intro (hW.cell h1) (And.intro (hW.cell h2) (hW.cell h3)))
  have HT := Lib.hid (fun W (hW : Keeps w W) u => And.intro ((World.cell?_setCell_other W ⟨g, k, none⟩ ⟨b1, 0, none⟩ u (fun e => n1 (by injection e with e1; exact e1.symm))).trans (hW.cell h1)) (And.intro ((World.cell?_setCell_other W ⟨g, k, none⟩ ⟨b2, 0, none⟩ u (fun e => n2 (by injection e with e1; exact e1.symm))).trans (hW.cell h2)) ((World.cell?_setCell_other W ⟨g, k, none⟩ ⟨g, 1, none⟩ u (fun e => hk (by injection e with _ e1 _))).trans (hW.cell h3))))
  have HO := Lib.hid (fun W (hW : Keeps w W) => ho.keeps hW)
  unfold GivesParse at HN
  generalize parseS s.data.toList q = p at HN ⊢
  obtain ⟨x, ok⟩ := p
  dsimp only at HN
  have d1 := h1
  have d2 := h2
  have d3 := h3
  clear h1 h2 h3 hs hp he hB hx ho n1 n2 hk
  go_enter Tryz.func54, Tryz.ntmps54
  go_wp2_with fail
  go_region_held3 (fun w' => w'.cell? ⟨b1, 0, none⟩ = some (.pointer (some ⟨g, k, none⟩)) ∧ w'.cell? ⟨b2, 0, none⟩ = some (.pointer (some ⟨g, 1, none⟩)) ∧ w'.cell? ⟨g, 1, none⟩ = some (.int .i64 q))
    (first
      | exact HT.out _ HB1.out _
      | exact HS.out _ HB1.out
      | exact HS.out _ (Keeps.self w))
    ((go_at_call 55
      (with_reducible refine (HN.out _ (Keeps.self w)).mono ?_)
      rintro e w1 ⟨rfl, hb⟩
      have HB1 := Lib.hid (show Keeps w w1 from Below.trans (Keeps.self w) hb)
      obtain ⟨⟨v, hv⟩, hf⟩ := HO.out _ HB1.out
      clear hb))
  go_wp2_with fail
  go_ret
  exact ⟨_, HB1.out, rfl, rfl⟩

theorem only_refl (w : World) (row : Option Nat) : w.grownBy w row := ⟨rfl, rfl, rfl, Nat.le_refl _, fun _ _ _ => rfl⟩
theorem only_below {a w w' : World} {row : Option Nat} (h : a.grownBy w row) (hb : Below w.heap.size w w') : a.grownBy w' row :=
  ⟨hb.os.trans h.os, hb.tape.trans h.tape, hb.output.trans h.output, Nat.le_trans h.size hb.size, fun i hi hne => (hb.block i (Nat.lt_of_lt_of_le hi h.size)).trans (h.block i hi hne)⟩
theorem only_own {a w w' : World} {row : Option Nat} {base e size n : Nat} {v : Value} {xs : List Value} (h : a.grownBy w row) (hown : w.ownsRow base e size v n xs) (hB : a.heap.size ≤ base) (hg : w.grownBy w' v.ownBlock) : a.grownBy w' row :=
  ⟨hg.os.trans h.os, hg.tape.trans h.tape, hg.output.trans h.output, Nat.le_trans h.size hg.size, fun i hi hne => (hg.block i (Nat.lt_of_lt_of_le hi h.size) (fun e => by have := (hown.lt i e.symm).1; omega)).trans (h.block i hi hne)⟩
theorem grown_set (w : World) (p : Addr) (u : Value) : w.grownBy (w.setCell p u) (some p.block) :=
  ⟨rfl, rfl, rfl, by simp [World.setCell], fun i _ hne => Below.heap_setCell w p u i (fun e => hne (by rw [e]))⟩
theorem own_far {w : World} {base e size n : Nat} {v : Value} {xs : List Value} (h : w.ownsRow base e size v n xs) {p : Addr} (hp : p.block < base) (u : Value) : (w.setCell p u).ownsRow base e size v n xs := by
  refine h.kept (grown_set w p u) ?_
  cases hv : v.ownBlock with
  | none => exact .inl rfl
  | some k => exact .inr fun e => by injection e with e; have := (h.lt k hv).1; omega
theorem below_only {w0 a w : World} {B g : Nat} (hb : Below B w0 a) (hB : B ≤ w0.heap.size) (hg : a.grownBy w (some g)) (h : B ≤ g) : Below B w0 w :=
  hb.grown hg (Nat.le_trans hB hb.size) fun k hk => by injection hk with hk; omega
theorem only_trans {a b c : World} {row : Option Nat} (h : a.grownBy b row) (k : b.grownBy c row) : a.grownBy c row :=
  ⟨k.os.trans h.os, k.tape.trans h.tape, k.output.trans h.output, Nat.le_trans h.size k.size, fun i hi hne => (k.block i (Nat.lt_of_lt_of_le hi h.size) hne).trans (h.block i hi hne)⟩

theorem cutAt_len (c : UInt8) : ∀ s : List UInt8, (cutAt c s).length ≤ s.length + 1
  | [] => by simp [cutAt]
  | b :: l => by
    have ih := cutAt_len c l
    simp only [cutAt]
    split
    · simp; omega
    · split
      · simp
      · rename_i h; rw [h] at ih; simp at ih ⊢; omega

theorem cutAt_short (c : UInt8) (s : List UInt8) (y : List UInt8) (hy : y ∈ cutAt c s) : y.length ≤ s.length := by
  have h := join_cutAt c s
  have key : ∀ (l : List (List UInt8)) (y : List UInt8), y ∈ l → y.length ≤ (Lib.join l [c]).length := by
    intro l
    induction l with
    | nil => intro y hy; cases hy
    | cons x r ih =>
      intro y hy
      cases r with
      | nil =>
        rw [Lib.join_one]
        rcases List.mem_cons.1 hy with rfl | hy
        · exact Nat.le_refl _
        · cases hy
      | cons z m =>
        have e : Lib.join (x :: z :: m) [c] = x ++ c :: Lib.join (z :: m) [c] := by
          rw [Lib.join_cons, Lib.join_cons]
          simp [Lib.joinTail]
        rw [e, List.length_append, List.length_cons]
        rcases List.mem_cons.1 hy with rfl | hy
        · omega
        · have := ih y hy
          omega
  have := key _ y hy
  rwa [h] at this

theorem infoInt : (Tryz.prog.info? 3).map (fun i => (i.zero, i.size, i.bytes)) = some (some (.int .i64 0), 1, 8) := by kernel_rfl

/-- Sizes have been read into the first cell of block g. -/
def ReadSz (w : World) (g : Nat) (C : Array Value) (W : List (List UInt8)) (e : Ending) (w' : World) : Prop := ∃ v, w.grownBy w' (some g) ∧ w'.heap[g]? = some (.cells (C.setIfInBounds 0 v) 24 (0, 0)) ∧
  ((∃ zs, szRead W = some zs ∧ e = .returned (.bool true) ∧ w'.ownsRow w.heap.size 3 1 v zs.length (zs.map (Value.int .i64))) ∨ (szRead W = none ∧ e = .returned (.bool false)))

theorem szRead_step {W : List (List UInt8)} {pre : List Int} {k : Nat} {y : List UInt8} (h : szRead W = (szRead (W.drop k)).map (pre ++ ·)) (hy : W[k]? = some y) (hn : (natS y 1048576).2 = true) :
    szRead W = (szRead (W.drop (k + 1))).map ((pre ++ [(natS y 1048576).1]) ++ ·) := by
  have hd : W.drop k = y :: W.drop (k + 1) := by
    obtain ⟨h1, h2⟩ := List.getElem?_eq_some_iff.1 hy
    rw [List.drop_eq_getElem_cons h1, h2]
  rw [h, hd]
  simp only [szRead, hn, if_true, Option.map_map]
  congr 1
  funext x
  simp
theorem szRead_stop {W : List (List UInt8)} {pre : List Int} {k : Nat} {y : List UInt8} (h : szRead W = (szRead (W.drop k)).map (pre ++ ·)) (hy : W[k]? = some y) (hn : (natS y 1048576).2 = false) : szRead W = none := by
  have hd : W.drop k = y :: W.drop (k + 1) := by
    obtain ⟨h1, h2⟩ := List.getElem?_eq_some_iff.1 hy
    rw [List.drop_eq_getElem_cons h1, h2]
  rw [h, hd]
  simp [szRead, hn]

set_option linter.unusedSimpArgs false in
set_option maxRecDepth 100000 in
set_option maxHeartbeats 8000000 in
theorem szRead_any (s : ByteArray) (hs : s.size ≤ 100000) (b g : Nat) (C : Array Value) (B : Nat) (w : World) (hp : Pow B w) (he : Errs B w) (hm : MaxL B w) (hB : B ≤ w.heap.size) (hBg : B ≤ g) (h1 : w.cell? ⟨b, 0, none⟩ = some (.pointer (some ⟨g, 0, none⟩))) (hne : b ≠ g)
    (hg : w.heap[g]? = some (.cells C 24 (0, 0))) (hC : C[0]? = some (.slice none 0 0)) :
    Calls Tryz.prog 51 #[.string s, .pointer (some ⟨b, 0, none⟩)] w (ReadSz w g C (cutAt 44 s.data.toList)) := by
  obtain ⟨i0, hi, hz0, hz1, hz2⟩ := info_parts infoInt
  have HI := Lib.hid (And.intro hi (And.intro hz0 (And.intro hz1 hz2)))
  have HSP := Lib.hid (split_any s 44 B w (by omega) hm)
  have HN := Lib.hid (fun (y : ByteArray) (hy : y.size ≤ 100000) W (hb : Below B w W) => natural_any y 1048576 B W (by omega) (hp.on hb) (he.on hb) (Nat.le_trans hB hb.size) (by unfold In64; omega))
  have hsl : s.data.toList.length = s.size := Array.length_toList
  have HWS := Lib.hid (show ∀ ws : List ByteArray, ws.map (·.data.toList) = cutAt 44 s.data.toList → ws.length ≤ 100001 ∧ ∀ y ∈ ws, y.size ≤ 100000 from fun ws h => by
    have l1 := congrArg List.length h
    rw [List.length_map] at l1
    have l2 := cutAt_len 44 s.data.toList
    refine ⟨by omega, fun y hy => ?_⟩
    have l3 := cutAt_short 44 s.data.toList y.data.toList (by rw [← h]; exact List.mem_map_of_mem hy)
    have l4 : y.data.toList.length = y.size := Array.length_toList
    omega)
  have hgl := blk_lt hg
  have hbl := World.block_lt_of_cell? w _ h1
  dsimp only at hbl
  have HG := Lib.hid hg
  have H1 := Lib.hid h1
  have HNE := Lib.hid hne
  have HBB := Lib.hid (And.intro hB hBg)
  have hCs : 0 < C.size := by
    rcases Nat.eq_zero_or_pos C.size with h0 | h0
    · rw [Array.getElem?_eq_none (by omega)] at hC; cases hC
    · exact h0
  have HC0 := Lib.hid hC
  have HCS := Lib.hid hCs
  have hset : C.setIfInBounds 0 (.slice none 0 0) = C := by
    apply Array.ext
    · simp
    · intro i h1 h2
      by_cases hi0 : i = 0
      · subst hi0
        simp at hC ⊢
        obtain ⟨_, h3⟩ := Array.getElem?_eq_some_iff.1 HC0.out
        rw [h3]
      · rw [Array.getElem_setIfInBounds_ne (by simpa using h1) (by omega)]
  have HSET := Lib.hid hset
  clear hi hz0 hz1 hz2 hp he hm hB hBg hs hsl hg h1 hne hC hCs hset
  go_enter Tryz.func51, Tryz.ntmps51
  go_wp2_with fail
  (with_reducible refine HSP.out.mono ?_)
  rintro e w1 ⟨ws, hws, rfl, hw1⟩
  have HGW := Lib.hid (show w1.heap[w.heap.size]? = some (.cells (ws.map Value.string).toArray 9 (0, 0)) by rw [hw1]; exact heap_alloc_new w _)
  have HOW := Lib.hid (show w.grownBy w1 (some g) by rw [hw1]; exact only_alloc (only_refl _ _) _)
  have HGG := Lib.hid (show w1.heap[g]? = some (.cells (C.setIfInBounds 0 (.slice none 0 0)) 24 (0, 0)) by rw [hw1, HSET.out]; exact blk_alloc HG.out _)
  obtain ⟨hwl, hwz⟩ := HWS.out ws hws
  have HWZ := Lib.hid hwz
  have HWW := Lib.hid hws
  have hwl' : (ws.length : Int) ≤ 100001 := by omega
  clear hw1 hws hwz HWS HSP
  go_wp2_with fail
  go_loopw [11] (fun i wr => ∃ (k : Nat) (pre : List Int) (v : Value), k ≤ ws.length ∧ i = .int .i64 k ∧ Hid (pre.length = k) ∧ Hid (szRead (cutAt 44 s.data.toList) = (szRead ((cutAt 44 s.data.toList).drop k)).map (pre ++ ·)) ∧ Hid (wr.ownsRow w.heap.size 3 1 v k (pre.map (Value.int .i64))) ∧ Hid (w.grownBy wr (some g)) ∧ Hid (wr.heap[g]? = some (.cells (C.setIfInBounds 0 v) 24 (0, 0))) ∧ Hid (wr.heap[w.heap.size]? = some (.cells (ws.map Value.string).toArray 9 (0, 0)))) (fun i _ => ws.length - (intOf i).toNat)
  case atStart => exact ⟨0, [], .slice none 0 0, Nat.zero_le _, rfl, Lib.hid rfl, Lib.hid (by simp), Lib.hid (own_nil _ _ _ _), HOW, HGG, HGW⟩
  case round =>
    obtain ⟨k, pre, v, hk, rfl, HPL, HIN, HOk, HBk, HGk, HWk⟩ := hrel
    by_cases hlt : k < ws.length
    · obtain ⟨y, hy⟩ := get_some ws k hlt
      have cy : wr.cell? ⟨w.heap.size, k, none⟩ = some (.string y) := (blk_cell HWk.out k).trans (by simp [hy])
      have hyz := HWZ.out y (List.mem_of_getElem? hy)
      have hyk : (cutAt 44 s.data.toList)[k]? = some y.data.toList := by rw [← HWW.out, List.getElem?_map, hy]; rfl
      have HNy := Lib.hid (HN.out y hyz wr (below_only (Below.refl B w) HBB.out.1 HBk.out HBB.out.2))
      have hgl2 := blk_lt HWk.out
      have kk0 : (0 : Int) ≤ (k : Int) := by omega
      have kk1 : (k : Int) < (ws.length : Int) := by omega
      have hst := fun h => szRead_step HIN.out hyk h
      have hsp := fun h => szRead_stop HIN.out hyk h
      unfold GivesNat at HNy
      generalize natS y.data.toList 1048576 = p at HNy hst hsp
      obtain ⟨x, ok⟩ := p
      dsimp only at HNy hst hsp
      cases ok
      · have HST := Lib.hid (hsp rfl)
        clear hst hsp hyk hy HIN
        go_wp2_with fail
        (with_reducible refine HNy.out.mono ?_)
        rintro e w2 ⟨rfl, hb⟩
        have HB2 := Lib.hid (only_below HBk.out hb)
        have HG2 := Lib.hid (blk_below HGk.out hb (blk_lt HGk.out))
        clear hb
        go_wp2_with fail
        go_ret
        exact ⟨v, HB2.out, HG2.out, .inr ⟨HST.out, rfl⟩⟩
      · have HST := Lib.hid (hst rfl)
        clear hst hsp hyk hy HIN
        go_wp2_with fail
        (with_reducible refine HNy.out.mono ?_)
        rintro e w2 ⟨rfl, hb⟩
        have HB2 := Lib.hid (only_below HBk.out hb)
        have HG2 := Lib.hid (blk_below HGk.out hb (blk_lt HGk.out))
        have HW2 := Lib.hid (blk_below HWk.out hb (blk_lt HWk.out))
        have HO2 := Lib.hid (own_below HOk.out hb)
        clear hb HBk HGk HWk HOk HNy cy hgl2
        have c1 : w2.cell? ⟨b, 0, none⟩ = some (.pointer (some ⟨g, 0, none⟩)) := HB2.out.cell H1.out (fun e => HNE.out (by injection e))
        have c2 : w2.cell? ⟨g, 0, none⟩ = some v := (blk_cell HG2.out 0).trans (by simp [HCS.out])
        go_wp2_with fail
        refine wp_region_but 8 (fun w' => w'.cell? ⟨b, 0, none⟩ = some (.pointer (some ⟨g, 0, none⟩)) ∧ w'.cell? ⟨g, 0, none⟩ = some v) (by kernel_rfl) ⟨c1, c2⟩ (fun hHeld => ?_)
        refine AnyBut.take 0 (d := (some 22)) (v := ?_) rfl rfl (by kernel_rfl) (by kernel_rfl) (by kernel_rfl) (by kernel_rfl) (fun _ _ _ h => h) (by rfl) (by assumption) ?_ ?_
        rotate_left
        · (intro wx hSw; (try dsimp only at hSw); go_simp); all_goals with_reducible rfl
        try simp only [Act.put, List.setIfInBounds_toArray, List.set_cons_zero, List.set_cons_succ]
        refine AnyBut.take 1 (d := (some 23)) (v := ?_) rfl rfl (by kernel_rfl) (by kernel_rfl) (by kernel_rfl) (by kernel_rfl) (fun _ _ _ h => h) (by rfl) (by assumption) ?_ ?_
        rotate_left
        · (intro wx hSw; (try dsimp only at hSw); go_simp); all_goals with_reducible rfl
        try simp only [Act.put, List.setIfInBounds_toArray, List.set_cons_zero, List.set_cons_succ]
        refine AnyBut.take 2 (d := (some 24)) (v := ?_) rfl rfl (by kernel_rfl) (by kernel_rfl) (by kernel_rfl) (by kernel_rfl) (fun _ _ _ h => h) (by rfl) (by assumption) ?_ ?_
        rotate_left
        · (intro wx hSw; (try dsimp only at hSw); go_simp); all_goals with_reducible rfl
        try simp only [Act.put, List.setIfInBounds_toArray, List.set_cons_zero, List.set_cons_succ]
        refine AnyBut.take 3 (d := (some 25)) (v := ?_) rfl rfl (by kernel_rfl) (by kernel_rfl) (by kernel_rfl) (by kernel_rfl) (fun _ _ _ h => h) (by rfl) (by assumption) ?_ ?_
        rotate_left
        · (intro wx hSw; (try dsimp only at hSw); go_simp); all_goals with_reducible rfl
        try simp only [Act.put, List.setIfInBounds_toArray, List.set_cons_zero, List.set_cons_succ]
        refine AnyBut.take 4 (d := (some 26)) (v := ?_) rfl rfl (by kernel_rfl) (by kernel_rfl) (by kernel_rfl) (by kernel_rfl) (fun _ _ _ h => h) (by rfl) (by assumption) ?_ ?_
        rotate_left
        · (intro wx hSw; (try dsimp only at hSw); go_simp); all_goals with_reducible rfl
        try simp only [Act.put, List.setIfInBounds_toArray, List.set_cons_zero, List.set_cons_succ]
        clear hHeld
        refine AnyBut.step 5 (by kernel_rfl) rfl (by decide) (by rfl) (fun K hK => ?_)
        go_simp
        refine hK.out _ _ ⟨(World.cell?_alloc_lt _ _ _ (by have := HB2.out.size; dsimp only; omega)).trans c1, (World.cell?_alloc_lt _ _ _ (by have := HB2.out.size; dsimp only; omega)).trans c2⟩ ?_
        clear hK K
        try simp only [Act.put, List.setIfInBounds_toArray, List.set_cons_zero, List.set_cons_succ]
        refine AnyBut.step 6 (by kernel_rfl) rfl (by decide) (by rfl) (fun K hK => ?_)
        refine wp_append_own _ _ _ 22 rfl w.heap.size 3 i0 (.int .i64 0) 1 8 Tryz.underlying22 HI.out.1 HI.out.2.1 HI.out.2.2.1 HI.out.2.2.2 rfl (by decide) _ _ _ rfl (HO2.out.alloc _) ⟨w2.heap.size, 0, none⟩ 1 1 [.int .i64 x] rfl rfl (fun j u hj => by
          match j, hj with
          | 0, hj => simp at hj; subst hj; simp [Addr.add]) (fun u hu => by simp at hu; subst hu; rfl) (by unfold maxLen; omega) (by omega) (by have := HB2.out.size; simp; omega) ?_
        intro v' w3 hown' hgrow _
        obtain ⟨A', c', rfl⟩ := own_slice hown'
        have hgr : (w2.alloc (.cells #[.int .i64 x] 3)).grownBy w3 v.ownBlock := ⟨hgrow.os, hgrow.tape, hgrow.output, hgrow.size, hgrow.block⟩
        have hng : some g ≠ v.ownBlock := fun e => own_ne HO2.out HG2.out (by decide) e.symm
        have hnb : some b ≠ v.ownBlock := fun e => by have := (HO2.out.lt b e.symm).1; omega
        have hnw : some w.heap.size ≠ v.ownBlock := fun e => own_ne HO2.out HW2.out (by decide) e.symm
        have HG3 := Lib.hid (blk_grown (blk_alloc HG2.out _) hgr hng)
        have HW3 := Lib.hid (blk_grown (blk_alloc HW2.out _) hgr hnw)
        have HB3 := Lib.hid (only_own (only_alloc HB2.out _) (HO2.out.alloc _) (Nat.le_refl _) hgr)
        have HO3 := Lib.hid hown'
        have e1 : w3.cell? ⟨b, 0, none⟩ = some (.pointer (some ⟨g, 0, none⟩)) := HB3.out.cell H1.out (fun e => HNE.out (by injection e))
        have e2 : w3.cell? ⟨g, 0, none⟩ = some v := (blk_cell HG3.out 0).trans (by simp [HCS.out])
        have f2 : w3.frozen? ⟨g, 0, none⟩ = false := blk_frozen HG3.out 0
        refine hK.out _ _ ⟨e1, e2⟩ ?_
        clear hK K hown' hgrow hgr hng hnb hnw
        try simp only [Act.put, List.setIfInBounds_toArray, List.set_cons_zero, List.set_cons_succ]
        refine AnyBut.step 7 (by kernel_rfl) rfl (by decide) (by rfl) (fun K hK => ?_)
        go_simp
        refine hK.out _ _ ⟨e1, e2⟩ ?_
        clear hK K
        try simp only [Act.put, List.setIfInBounds_toArray, List.set_cons_zero, List.set_cons_succ]
        refine AnyBut.last (by kernel_rfl) (by kernel_rfl) rfl (by rfl) (fun K hK => ?_)
        go_simp
        refine hK.out _ _ ?_
        clear hK K
        have HG4 := Lib.hid (show (w3.setCell ⟨g, 0, none⟩ (.slice A' (k + 1) c')).heap[g]? = some (.cells (C.setIfInBounds 0 (.slice A' (k + 1) c')) 24 (0, 0)) from by
          have := blk_set HG3.out 0 (.slice A' (k + 1) c')
          rwa [Array.setIfInBounds_setIfInBounds] at this)
        have HW4 := Lib.hid (blk_far HW3.out (p := ⟨g, 0, none⟩) (by dsimp only; omega) (.slice A' (k + 1) c'))
        have HB4 := Lib.hid (only_setCell HB3.out (p := ⟨g, 0, none⟩) (.inl rfl) (.slice A' (k + 1) c'))
        have HO4 := Lib.hid (own_far HO3.out (p := ⟨g, 0, none⟩) (by dsimp only; omega) (.slice A' (k + 1) c'))
        clear e1 e2 f2 c1 c2 HB3 HG3 HW3 HO3
        go_wp2_with fail
        go_roundw
        case rel => exact ⟨k + 1, pre ++ [x], _, by omega, by go_num, Lib.hid (by rw [List.length_append, HPL.out]; rfl), HST, Lib.hid (by rw [List.map_append]; exact HO4.out), HB4, HG4, HW4⟩
        case measure => simp [intOf]; omega
    · have hke : k = ws.length := by omega
      have HR := Lib.hid (show szRead (cutAt 44 s.data.toList) = some pre by
        have h := HIN.out
        have hl : (cutAt 44 s.data.toList).length = ws.length := by rw [← HWW.out, List.length_map]
        rw [List.drop_of_length_le (by omega)] at h
        rw [h]
        simp [szRead])
      have HPL' := HPL.out
      subst hke
      clear HIN
      go_wp2_with fail
      go_ret
      exact ⟨v, HBk.out, HGk.out, .inl ⟨pre, HR.out, rfl, by rw [HPL']; exact HOk.out⟩⟩

end Go.Proofs.YtiokdfkddcokoaaGreatDoor
