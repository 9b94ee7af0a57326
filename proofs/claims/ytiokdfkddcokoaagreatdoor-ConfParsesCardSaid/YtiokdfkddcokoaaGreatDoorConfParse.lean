/- Walk: conf.Parse. Conditions: the table of powers of ten, the two sentinels and the library's bound on a search read as listed. -/
import Derived.Test.YtiokdfkddcokoaaGreatDoorConfParseP
import Derived.Test.YtiokdfkddcokoaaGreatDoorConfFields
import Derived.Deep.MidRow
namespace Go.Proofs.YtiokdfkddcokoaaGreatDoor
open Go.RowKit

def cfNil : Array Value := cfCells none 0 0 ⟨0, 0, 0, 0, 0, 0, 0, 0, 0, 0, 0⟩

def z39 : Array Value := #[.string ⟨#[]⟩, .nilFunc, .nilFunc, .string ⟨#[]⟩, .nilFunc, .nilFunc, .string ⟨#[]⟩, .nilFunc, .nilFunc, .string ⟨#[]⟩, .nilFunc, .nilFunc, .string ⟨#[]⟩, .nilFunc, .nilFunc, .string ⟨#[]⟩, .nilFunc, .nilFunc, .string ⟨#[]⟩, .nilFunc, .nilFunc, .string ⟨#[]⟩, .nilFunc, .nilFunc, .string ⟨#[]⟩, .nilFunc, .nilFunc, .string ⟨#[]⟩, .nilFunc, .nilFunc, .string ⟨#[]⟩, .nilFunc, .nilFunc, .string ⟨#[]⟩, .nilFunc, .nilFunc]

theorem nil_one : cfNil.all (·.oneCell') = true := by simp [cfNil, cfCells, Value.oneCell']

theorem str_eqB {s t : ByteArray} (h : s.data.toList = t.data.toList) : (s.toList == t.toList) = true := by
  rw [Go.ByteArray.toList_eq, Go.ByteArray.toList_eq, h]; simp
theorem str_neB {s t : ByteArray} (h : s.data.toList ≠ t.data.toList) : (s.toList == t.toList) = false := by
  rw [Go.ByteArray.toList_eq, Go.ByteArray.toList_eq]; simpa using h

theorem there_len' {W : World} {z n : Nat} {C : Array Value} {T : TypeId} (h : W.heap[z]? = some (.cells C T (0, 0))) (hn : n = C.size) : W.there z 0 n := hn ▸ there_of h
theorem info24 : (Tryz.prog.info? 24).map (·.size) = some 12 := by kernel_rfl

/-- What stays while a text is parsed: the array of fields, the boxes, the result's block. -/
structure PS (w : World) (z : Nat) (L : List (List Value)) (W : World) : Prop where
  below : Below w.heap.size w W
  arr : W.rangeAt z 0 L.flatten
  flds : Flds W (w.heap.size + 1) L
  res : W.heap[w.heap.size]? = some (.cells cfNil 24 (0, 0))
  zl : w.heap.size + 1 < z ∧ z < W.heap.size
theorem PS.next {w W W' : World} {z : Nat} {L : List (List Value)} (h : PS w z L W) (hb : Below W.heap.size W W') : PS w z L W' :=
  ⟨h.below.trans (hb.mono h.below.size), fun j v hv => (hb.cell (p := ⟨z, 0 + j, none⟩) h.zl.2).trans (h.arr j v hv), h.flds.below hb, blk_below h.res hb (blk_lt h.res), h.zl.1, Nat.lt_of_lt_of_le h.zl.2 hb.size⟩
theorem PS.only {w W W' : World} {z : Nat} {L : List (List Value)} (h : PS w z L W) (hg : W.grownBy W' (some (w.heap.size + 1))) : PS w z L W' :=
  ⟨below_only h.below (Nat.le_refl _) hg (Nat.le_succ _), fun j v hv => hg.cell (h.arr j v hv) (fun e => by injection e with e; have := h.zl.1; dsimp only at e; omega), h.flds.only hg, blk_grown h.res hg (fun e => by injection e with e; omega), h.zl.1, Nat.lt_of_lt_of_le h.zl.2 hg.size⟩

theorem own_less {w : World} {base base' e size n : Nat} {v : Value} {xs : List Value} (h : w.ownsRow base e size v n xs) (hb : base' ≤ base) : w.ownsRow base' e size v n xs := by
  rcases h.2 with ⟨rfl, h0⟩ | ⟨g, cap, cur, rfl, hg, h1⟩
  · exact ⟨h.1, .inl ⟨rfl, h0⟩⟩
  · exact ⟨h.1, .inr ⟨g, cap, cur, rfl, by omega, h1⟩⟩
theorem own_only {w w' : World} {base e size n g : Nat} {v : Value} {xs : List Value} (h : w.ownsRow base e size v n xs) (hg : w.grownBy w' (some g)) (hlt : g < base) : w'.ownsRow base e size v n xs := by
  refine h.kept hg ?_
  cases hv : v.ownBlock with
  | none => exact .inl rfl
  | some k => exact .inr fun e => by injection e with e; have := (h.lt k hv).1; omega
theorem only_setCells {g : Nat} : ∀ (vs : List Value) (o : Nat) {a w : World}, a.grownBy w (some g) → a.grownBy (w.setCells g o vs) (some g)
  | [], _, _, _, h => h
  | v :: r, o, _, _, h => only_setCells r (o + 1) (only_setCell h (p := ⟨g, o, none⟩) (.inl rfl) v)

/-- One more field has been read. -/
theorem round_next {w2 wr W3 w4 : World} {g k : Nat} {Wd : List (List UInt8)} {A : Option Addr} {zs : List Int} {cap : Nat} {v : Value} (hk : k < 12) (hgd : ∀ j, j < k → GoodK Wd j) (hz : (0 < k → szRead (cutAt 44 (Wd.getD 1 [])) = some zs) ∧ (k = 0 → A = none ∧ zs = [] ∧ cap = 0))
    (ho : wr.ownsRow w2.heap.size 3 1 (.slice A zs.length cap) zs.length (zs.map (Value.int .i64))) (hblk : w4.heap[g]? = some (.cells ((cfCells A zs.length cap (cfPart Wd k)).setIfInBounds k v) 24 (0, 0))) (hgr : W3.grownBy w4 (some g)) (h3 : Below wr.heap.size wr W3)
    (hgb : g < w2.heap.size) (hG : w2.grownBy wr (some g)) (hname : Wd.getD (2 * k) [] = (nameK k).data.toList)
    (h0 : k = 0 → (∃ zs, szRead (cutAt 44 (Wd.getD 1 [])) = some zs ∧ true = true ∧ w4.ownsRow W3.heap.size 3 1 v zs.length (zs.map (Value.int .i64))) ∨ (szRead (cutAt 44 (Wd.getD 1 [])) = none ∧ true = false)) (hp : 0 < k → true = (valK Wd k).2 ∧ v = .int .i64 (valK Wd k).1) :
    ∃ (A' : Option Addr) (zs' : List Int) (cap' : Nat), (∀ j, j < k + 1 → GoodK Wd j) ∧ ((0 < k + 1 → szRead (cutAt 44 (Wd.getD 1 [])) = some zs') ∧ (k + 1 = 0 → A' = none ∧ zs' = [] ∧ cap' = 0)) ∧ w4.ownsRow w2.heap.size 3 1 (.slice A' zs'.length cap') zs'.length (zs'.map (Value.int .i64)) ∧
      w4.heap[g]? = some (.cells (cfCells A' zs'.length cap' (cfPart Wd (k + 1))) 24 (0, 0)) ∧ w2.grownBy w4 (some g) := by
  have hG4 : w2.grownBy w4 (some g) := only_trans (only_below hG h3) hgr
  rcases Nat.eq_zero_or_pos k with rfl | hpos
  · rcases h0 rfl with ⟨zs', hz', _, ho'⟩ | ⟨_, h⟩
    · obtain ⟨A', cap', rfl⟩ := own_slice ho'
      obtain ⟨rfl, rfl, rfl⟩ := hz.2 rfl
      refine ⟨A', zs', cap', fun j hj => ?_, ⟨fun _ => hz', fun h => absurd h (Nat.succ_ne_zero 0)⟩, own_less ho' (Nat.le_trans hG.size h3.size), hblk, hG4⟩
      obtain rfl : j = 0 := by omega
      exact ⟨hname, fun _ => ⟨zs', hz'⟩, fun h => absurd h (Nat.lt_irrefl 0)⟩
    · cases h
  · obtain ⟨hok, rfl⟩ := hp hpos
    refine ⟨A, zs, cap, fun j hj => ?_, ⟨fun _ => hz.1 hpos, fun h => absurd h (Nat.succ_ne_zero k)⟩, own_only (own_below ho h3) hgr hgb, ?_, hG4⟩
    · rcases Nat.lt_succ_iff_lt_or_eq.1 hj with h | rfl
      · exact hgd j h
      · exact ⟨hname, fun h => by omega, fun _ => hok.symm⟩
    · rw [hblk, part_next Wd A zs.length cap k hpos hk]

theorem round_bad {k : Nat} {Wd : List (List UInt8)} {p : List Int → Prop} {v : Value} (h0 : k = 0 → (∃ zs, szRead (cutAt 44 (Wd.getD 1 [])) = some zs ∧ false = true ∧ p zs) ∨ (szRead (cutAt 44 (Wd.getD 1 [])) = none ∧ false = false)) (hp : 0 < k → false = (valK Wd k).2 ∧ v = .int .i64 (valK Wd k).1) : ¬ GoodK Wd k := fun h => by
  rcases Nat.eq_zero_or_pos k with rfl | hpos
  · obtain ⟨zs, hz⟩ := h.2.1 rfl
    rcases h0 rfl with ⟨_, _, h, _⟩ | ⟨hn, _⟩
    · cases h
    · rw [hn] at hz; cases hz
  · have := (hp hpos).1
    rw [h.2.2 hpos] at this
    cases this

theorem parse_ret {w W : World} {l : List UInt8} {a : Act} {cells : List Value} {b : Bool} (ht2 : a.tmps.getD 2 undef = .pointer (some ⟨w.heap.size, 0, none⟩)) (ht3 : a.tmps.getD 3 undef = .bool b) (hd : a.defers = []) (hlen : cells.length = 12)
    (hth : W.there w.heap.size 0 12) (hG : GivesCf l w (.returned (.tuple #[.agg cells.toArray, .bool b])) (W.setCells w.heap.size 0 cells)) :
    bodyPost Tryz.prog Tryz.f9 (GivesCf l w) .ret a (W.setCells w.heap.size 0 cells) := by
  refine bodyPost_ret (v := .tuple #[.agg cells.toArray, .bool b]) ?_ hd hG
  have hrg := World.rangeAt_setCells_same W w.heap.size 0 cells (by rw [hlen]; exact hth)
  have ht2' : a.tmps[2]?.getD undef = .pointer (some ⟨w.heap.size, 0, none⟩) := by simpa using ht2
  have ht3' : a.tmps[3]?.getD undef = .bool b := by simpa using ht3
  have hld := run_loadVar_mid (P := Tryz.prog) (W.setCells w.heap.size 0 cells) w.heap.size 0 24 cells _ hrg Tryz.underlying24 rfl (by rw [hlen]; exact info24)
  simp [results, Tryz.results9, ht2', ht3', hld, asAddr]

set_option maxRecDepth 100000 in
set_option maxHeartbeats 8000000 in
theorem confParse_any (s : ByteArray) (hs : s.size ≤ 100000) (hw : ∀ y ∈ cutAt 32 s.data.toList, y.length ≤ 1000) (B : Nat) (w : World) (hp : Pow B w) (he : Errs B w) (hm : MaxL B w) (hB : B ≤ w.heap.size) :
    Calls Tryz.prog 9 #[.string s] w (GivesCf s.data.toList w) := by
  have hb1 := (Below.refl w.heap.size w).alloc (Nat.le_refl _) (.cells cfNil 24)
  have hb2 := hb1.alloc hb1.size (.cells cfNil 24)
  have hr0 : ((w.alloc (.cells cfNil 24)).alloc (.cells cfNil 24)).heap[w.heap.size]? = some (.cells cfNil 24 (0, 0)) := blk_alloc (heap_alloc_new w _) _
  have hg0 : ((w.alloc (.cells cfNil 24)).alloc (.cells cfNil 24)).heap[w.heap.size + 1]? = some (.cells cfNil 24 (0, 0)) := by
    have := heap_alloc_new (w.alloc (.cells cfNil 24)) (.cells cfNil 24)
    rwa [World.size_alloc] at this
  have HF := Lib.hid (fields_any (w.heap.size + 1) ((w.alloc (.cells cfNil 24)).alloc (.cells cfNil 24)) (by simp))
  have HB2 := Lib.hid hb2
  have HR0 := Lib.hid hr0
  have HG0 := Lib.hid hg0
  have HS := Lib.hid (show s.size ≤ 100000 ∧ _ from ⟨hs, hw⟩)
  have HX := Lib.hid (fun W (hb : Below w.heap.size w W) => And.intro (hp.on (hb.mono hB)) (And.intro (he.on (hb.mono hB)) (And.intro (hm.on (hb.mono hB)) (Nat.le_trans hB hb.size))))
  have HBB := Lib.hid hB
  have HSP := Lib.hid (fun W (hb : Below w.heap.size w W) => split_any s 32 B W (by omega) (hm.on (hb.mono hB)))
  have HWS := Lib.hid (show ∀ ws : List ByteArray, ws.map (·.data.toList) = cutAt 32 s.data.toList → ∀ y ∈ ws, y.size ≤ 1000 from fun ws h y hy => by
    have := hw y.data.toList (by rw [← h]; exact List.mem_map_of_mem hy)
    have l4 : y.data.toList.length = y.size := Array.length_toList
    omega)
  clear hb1 hb2 hr0 hg0 hs hw hp he hm hB
  unfold cfNil cfCells at HF HB2 HR0 HG0
  dsimp only at HF HB2 HR0 HG0
  go_enter Tryz.func9, Tryz.ntmps9
  go_wp2_with fail
  (with_reducible refine HF.out.mono ?_)
  rintro e w1 ⟨L, rfl, hL, hF, hb⟩
  have hlen : L.flatten.toArray.size = 36 := by rw [List.size_toArray, hF.size, hL]
  have hth : (w1.alloc (.cells z39 39)).there w1.heap.size 0 L.flatten.toArray.size := there_len (heap_alloc_new w1 _) (by rw [hlen]; rfl)
  have hin : (Tryz.prog.info? 39).map (·.size) = some L.flatten.toArray.size := by rw [hlen]; exact info39
  have hon := all_oneCell_toArray hF.one
  have HLEN := Lib.hid hlen
  have HTH := Lib.hid hth
  have HIN := Lib.hid hin
  have HON := Lib.hid hon
  have HL12 := Lib.hid hL
  have hb' := HB2.out.trans (hb.mono HB2.out.size)
  have hz1 : w.heap.size + 1 < w1.heap.size := by have := blk_lt (blk_below HG0.out hb (blk_lt HG0.out)); omega
  have HPS := Lib.hid (show PS w w1.heap.size L ((w1.alloc (.cells z39 39)).setCells w1.heap.size 0 L.flatten.toArray.toList) from
    ⟨below_setCells (by omega) _ 0 _ _ (hb'.alloc hb'.size _), World.rangeAt_setCells_same _ _ 0 _ hth, (hF.below ((Below.refl _ _).alloc (Nat.le_refl _) _)).far (heap_alloc_new w1 _) (by decide) (heap_setCells _ _ 0 _),
      (heap_setCells _ _ 0 _ _ (by omega)).trans (blk_alloc (blk_below HR0.out hb (blk_lt HR0.out)) _), hz1, by
        have : ∀ (vs : List Value) (o : Nat) (W : World), (W.setCells w1.heap.size o vs).heap.size = W.heap.size := by
          intro vs
          induction vs with
          | nil => intro o W; rfl
          | cons v r ih => intro o W; exact (ih (o + 1) _).trans (by simp [World.setCell])
        rw [this]
        simp⟩)
  have HGC := Lib.hid (show ((w1.alloc (.cells z39 39)).setCells w1.heap.size 0 L.flatten.toArray.toList).heap[w.heap.size + 1]? = some (.cells cfNil 24 (0, 0)) from
    (heap_setCells _ _ 0 _ _ (by omega)).trans (blk_alloc (blk_below HG0.out hb (blk_lt HG0.out)) _))
  have HIX := Lib.hid (fun (k : Nat) (l : List Value) (h : L[k]? = some l) => idx_field L hL (fun x hx => by
    obtain ⟨j, hj⟩ := List.getElem?_of_mem hx
    exact (hF j x hj).len) k l h)
  clear hlen hth hin hon hL hF hb HF HB2 HR0 HG0 hb' hz1
  unfold z39 at HTH
  go_wp2_with (refine wpList_store_mid rfl _ _ _ rfl w1.heap.size 0 L.flatten.toArray rfl rfl HTH.out HIN.out HON.out ?_)
  have HPG : Hid (∀ W W' : World, W' = W → PS w w1.heap.size L W → W.heap[w.heap.size + 1]? = some (.cells cfNil 24 (0, 0)) → Calls Tryz.prog 20 #[.string s, .string ⟨#[32]⟩] W' fun e w' => ∃ (q : Nat) (ws : List ByteArray), ws.map (·.data.toList) = cutAt 32 s.data.toList ∧ e = .returned (.slice (some ⟨q, 0, none⟩) ws.length ws.length) ∧
      q ≠ w.heap.size + 1 ∧ w'.heap[q]? = some (.cells (ws.map Value.string).toArray 9 (0, 0)) ∧ PS w w1.heap.size L w' ∧ w'.heap[w.heap.size + 1]? = some (.cells cfNil 24 (0, 0))) := Lib.hid fun W W' hW hps hgc => by
    subst hW
    refine (HSP.out W' hps.below).mono fun e w' ⟨ws, h1, h2, h3⟩ => ?_
    have hbb : Below W'.heap.size W' w' := by rw [h3]; exact (Below.refl _ _).alloc (Nat.le_refl _) _
    exact ⟨W'.heap.size, ws, h1, h2, by have := hps.zl; omega, by rw [h3]; exact heap_alloc_new W' _, hps.next hbb, blk_below hgc hbb (blk_lt hgc)⟩
  (with_reducible refine (HPG.out _ _ ?_ HPS.out HGC.out).mono ?_)
  · rfl
  rintro e w2 ⟨q, ws, hws, rfl, hqn, hgw, hps, hgc⟩
  have HGW := Lib.hid hgw
  have HPS2 := Lib.hid hps
  have HGC2 := Lib.hid hgc
  have HWS2 := Lib.hid hws
  have HQN := Lib.hid hqn
  have HWZ := Lib.hid (HWS.out ws hws)
  have hlw : (cutAt 32 s.data.toList).length = ws.length := by rw [← hws, List.length_map]
  have HLW := Lib.hid hlw
  generalize w1.heap.size = z at HPS2 HPG HTH HGC HPS
  clear hgw hps hgc hws hqn hlw HPG HTH HIN HON HWS HSP HPS HGC HLEN
  have hinf := info24
  by_cases h24 : ws.length = 24
  · rw [h24]
    have hi36 : (Tryz.prog.info? 39).map (·.size) = some L.flatten.length := by rw [HPS2.out.flds.size, HL12.out]; exact info39
    have HI36 := Lib.hid hi36
    have HLW24 := Lib.hid (HLW.out.trans h24)
    clear hi36 hinf HLW h24
    go_wp2_with (refine wpList_load_mid rfl _ _ rfl z 0 rfl L.flatten _ HPS2.out.arr Tryz.underlying39 rfl HI36.out ?_)
    generalize Value.agg L.flatten.toArray = V at HIX ⊢
    obtain ⟨Wd, hWd⟩ : ∃ Wd, cutAt 32 s.data.toList = Wd := ⟨_, rfl⟩
    rw [hWd] at HWS2 HLW24
    have HCUT := Lib.hid hWd
    clear hWd HI36 HS
    go_loopw [17] (fun i wr => ∃ (k : Nat) (A : Option Addr) (zs : List Int) (cap : Nat), k ≤ 12 ∧ i = .int .i64 k ∧ Hid (∀ j, j < k → GoodK Wd j) ∧ Hid ((0 < k → szRead (cutAt 44 (Wd.getD 1 [])) = some zs) ∧ (k = 0 → A = none ∧ zs = [] ∧ cap = 0)) ∧ Hid (wr.ownsRow w2.heap.size 3 1 (.slice A zs.length cap) zs.length (zs.map (Value.int .i64))) ∧
      Hid (wr.heap[w.heap.size + 1]? = some (.cells (cfCells A zs.length cap (cfPart Wd k)) 24 (0, 0))) ∧ Hid (w2.grownBy wr (some (w.heap.size + 1)))) (fun i _ => 12 - (intOf i).toNat)
    case atStart => exact ⟨0, none, [], 0, by decide, rfl, Lib.hid (fun j hj => absurd hj (Nat.not_lt_zero j)), Lib.hid ⟨fun h => absurd h (Nat.lt_irrefl 0), fun _ => ⟨rfl, rfl, rfl⟩⟩, Lib.hid (own_nil _ _ _ _), HGC2, Lib.hid (only_refl _ _)⟩
    case round =>
      obtain ⟨k, A, zs, cap, hk, rfl, HGD, HZS, HOk, HCk, HGk⟩ := hrel
      have HPk := Lib.hid (HPS2.out.only HGk.out)
      by_cases hlt : k < 12
      · obtain ⟨l, hl⟩ := get_some L k (by rw [HL12.out]; exact hlt)
        obtain ⟨y0, hy0⟩ := get_some ws (2 * k) (by have := HLW24.out; rw [← HWS2.out, List.length_map] at this; omega)
        obtain ⟨y1, hy1⟩ := get_some ws (2 * k + 1) (by have := HLW24.out; rw [← HWS2.out, List.length_map] at this; omega)
        have hgq : wr.heap[q]? = some (.cells (ws.map Value.string).toArray 9 (0, 0)) := blk_grown HGW.out HGk.out (fun e => HQN.out (by injection e))
        have cw0 : wr.cell? ⟨q, 2 * k, none⟩ = some (.string y0) := (blk_cell hgq _).trans (by simp [hy0])
        have cw1 : wr.cell? ⟨q, 2 * k + 1, none⟩ = some (.string y1) := (blk_cell hgq _).trans (by simp [hy1])
        have hql := blk_lt hgq
        have e0 : Wd.getD (2 * k) [] = y0.data.toList := by rw [← HWS2.out]; simp [List.getD, hy0]
        have e1 : Wd.getD (2 * k + 1) [] = y1.data.toList := by rw [← HWS2.out]; simp [List.getD, hy1]
        obtain ⟨x1, x2, x3, x4⟩ := HX.out wr HPk.out.below
        have hfr := fld_read (HPk.out.flds k l hl) hlt e1.symm (HWZ.out y1 (List.mem_of_getElem? hy1)) (fun h => let z := HZS.out.2 h; ⟨z.1, by rw [z.2.1]; rfl, z.2.2⟩) HCk.out x1 x2 x3 x4 (Nat.le_trans HBB.out (Nat.le_succ _))
        have hix := HIX.out k l hl
        have k0 : (0 : Int) ≤ (k : Int) := by omega
        have k1 : (k : Int) < 12 := by omega
        have m0 : (0 : Int) ≤ 2 * (k : Int) := by omega
        have m1 : 2 * (k : Int) < 24 := by omega
        have m2 : (0 : Int) ≤ 2 * (k : Int) + 1 := by omega
        have m3 : 2 * (k : Int) + 1 < 24 := by omega
        have m4 : IntKind.i64.wrap (2 * (k : Int)) = 2 * (k : Int) := IntWalk.i64_in _ (by omega)
        have m5 : IntKind.i64.wrap (2 * (k : Int) + 1) = 2 * (k : Int) + 1 := IntWalk.i64_in _ (by omega)
        have m6 : (2 * (k : Int)).toNat = 2 * k := by omega
        have m7 : (2 * (k : Int) + 1).toNat = 2 * k + 1 := by omega
        have HE0 := Lib.hid e0
        obtain ⟨nm, hnm⟩ : ∃ nm, nameK k = nm := ⟨_, rfl⟩
        rw [hnm] at hfr
        have HNM := Lib.hid hnm
        have HLT := Lib.hid hlt
        clear hl hy0 hy1 hgq e0 e1 x1 x2 x3 x4 hnm HIX HGW
        by_cases hn : y0.data.toList = nm.data.toList
        · have hs0 := str_eqB hn
          have HNQ := Lib.hid hn
          clear hn
          rcases hfr with ⟨b, rfl, hw⟩ | ⟨b1, b2, rfl, hw⟩ | ⟨b1, b2, rfl, hw⟩
          · as_aux_lemma =>
            have HWC := Lib.hid hw
            clear hw
            have hf3 := heap_alloc_new wr (.cells #[.string nm, .func (.func 50) #[] #[.pointer (some ⟨b, 0, none⟩)], .func (.func 51) #[] #[.pointer (some ⟨b, 0, none⟩)]] 38)
            have d0 := (World.cell?_alloc_lt wr (.cells #[.string nm, .func (.func 50) #[] #[.pointer (some ⟨b, 0, none⟩)], .func (.func 51) #[] #[.pointer (some ⟨b, 0, none⟩)]] 38) ⟨q, 2 * k, none⟩ hql).trans cw0
            have d1 := (World.cell?_alloc_lt wr (.cells #[.string nm, .func (.func 50) #[] #[.pointer (some ⟨b, 0, none⟩)], .func (.func 51) #[] #[.pointer (some ⟨b, 0, none⟩)]] 38) ⟨q, 2 * k + 1, none⟩ hql).trans cw1
            have d2 := blk_cell hf3 0
            have d3 := blk_cell hf3 2
            have HB3 := Lib.hid ((Below.refl wr.heap.size wr).alloc (Nat.le_refl _) (.cells #[.string nm, .func (.func 50) #[] #[.pointer (some ⟨b, 0, none⟩)], .func (.func 51) #[] #[.pointer (some ⟨b, 0, none⟩)]] 38))
            have HPS3 := Lib.hid (HPk.out.next HB3.out)
            have HD := Lib.hid (And.intro d0 (And.intro d1 (And.intro d2 d3)))
            have HF3 := Lib.hid hf3
            clear hf3 d0 d1 d2 d3
            go_wp2_with fail
            generalize wr.alloc (.cells #[.string nm, .func (.func 50) #[] #[.pointer (some ⟨b, 0, none⟩)], .func (.func 51) #[] #[.pointer (some ⟨b, 0, none⟩)]] 38) = w3 at HB3 HPS3 HD HF3 ⊢
            obtain ⟨d0, d1, d2, d3⟩ := HD.out
            have hl3 := blk_lt HF3.out
            have hq3 : q < w3.heap.size := World.block_lt_of_cell? w3 _ d0
            have hgl3 : q ≠ w.heap.size + 1 := HQN.out
            have hfl3 : wr.heap.size ≠ w.heap.size + 1 := by have := HPk.out.zl; omega
            have HNE := Lib.hid (And.intro hgl3 hfl3)
            clear hgl3 hfl3 cw0 cw1 hix
            go_region_held3 (fun w' => w'.cell? ⟨q, 2 * k, none⟩ = some (.string y0) ∧ w'.cell? ⟨q, 2 * k + 1, none⟩ = some (.string y1) ∧ w'.cell? ⟨wr.heap.size, 0, none⟩ = some (.string nm) ∧ w'.cell? ⟨wr.heap.size, 2, none⟩ = #[.string nm, .func (.func 50) #[] #[.pointer (some ⟨b, 0, none⟩)], .func (.func 51) #[] #[.pointer (some ⟨b, 0, none⟩)]][2]?)
              (first
                | exact ⟨HGR4.out.cell HD.out.1 (fun e => HNE.out.1 (by injection e)), HGR4.out.cell HD.out.2.1 (fun e => HNE.out.1 (by injection e)), HGR4.out.cell HD.out.2.2.1 (fun e => HNE.out.2 (by injection e)), HGR4.out.cell HD.out.2.2.2 (fun e => HNE.out.2 (by injection e))⟩
                | exact ⟨HD.out.1, HD.out.2.1, HD.out.2.2.1, HD.out.2.2.2⟩)
              ((go_at_call 51
                (with_reducible refine (HWC.out _ (below_drew HB3.out)).mono ?_)
                rintro e w4 ⟨ok, v, rfl, hgr, hblk, h0, hps⟩
                have HGR4 := Lib.hid (show w3.grownBy w4 (some (w.heap.size + 1)) from ⟨hgr.os, hgr.tape, hgr.output, hgr.size, hgr.block⟩)
                have HBLK := Lib.hid hblk
                have H0 := Lib.hid (And.intro h0 hps)
                clear hgr hblk h0 hps))
            have HPS4 := Lib.hid (HPS3.out.only HGR4.out)
            clear d0 d1 d2 d3 hq3 hl3
            cases ok
            · have hinf := info24
              have HBAD := Lib.hid (round_bad H0.out.1 H0.out.2)
              have HNC := Lib.hid (noCf_text (noCf_bad HLT.out (show ¬ GoodK (cutAt 32 s.data.toList) k from by rw [HCUT.out]; exact HBAD.out)))
              go_wp2_with (refine wpList_store_mid rfl _ _ _ rfl w.heap.size 0 cfNil rfl rfl (there_len' (n := 12) HPS4.out.res rfl) hinf nil_one ?_)
              exact parse_ret (cells := cfNil.toList) rfl rfl rfl rfl (there_len' (n := 12) HPS4.out.res rfl) ⟨.inr ⟨HNC.out, rfl⟩, below_setCells (Nat.le_refl _) _ 0 _ _ HPS4.out.below⟩
            · obtain ⟨A', zs', cap', q1, q2, q3, q4, q5⟩ := round_next HLT.out HGD.out HZS.out HOk.out HBLK.out HGR4.out HB3.out (blk_lt HGC2.out) HGk.out (by rw [HE0.out, HNQ.out, HNM.out]) H0.out.1 H0.out.2
              have HQ := Lib.hid (And.intro q1 (And.intro q2 (And.intro q3 (And.intro q4 q5))))
              clear q1 q2 q3 q4 q5
              go_wp2_with fail
              go_roundw
              case rel => exact ⟨k + 1, A', zs', cap', by omega, by go_num, Lib.hid HQ.out.1, Lib.hid HQ.out.2.1, Lib.hid HQ.out.2.2.1, Lib.hid HQ.out.2.2.2.1, Lib.hid HQ.out.2.2.2.2⟩
              case measure => simp [intOf]; omega
          · unfold decF at hix
            as_aux_lemma =>
            have HWC := Lib.hid hw
            clear hw
            have hf3 := heap_alloc_new wr (.cells #[.string nm, .func (.func 46) #[] #[.pointer (some ⟨b1, 0, none⟩), .pointer (some ⟨b2, 0, none⟩)], .func (.func 48) #[] #[.pointer (some ⟨b2, 0, none⟩), .pointer (some ⟨b1, 0, none⟩)]] 38)
            have d0 := (World.cell?_alloc_lt wr (.cells #[.string nm, .func (.func 46) #[] #[.pointer (some ⟨b1, 0, none⟩), .pointer (some ⟨b2, 0, none⟩)], .func (.func 48) #[] #[.pointer (some ⟨b2, 0, none⟩), .pointer (some ⟨b1, 0, none⟩)]] 38) ⟨q, 2 * k, none⟩ hql).trans cw0
            have d1 := (World.cell?_alloc_lt wr (.cells #[.string nm, .func (.func 46) #[] #[.pointer (some ⟨b1, 0, none⟩), .pointer (some ⟨b2, 0, none⟩)], .func (.func 48) #[] #[.pointer (some ⟨b2, 0, none⟩), .pointer (some ⟨b1, 0, none⟩)]] 38) ⟨q, 2 * k + 1, none⟩ hql).trans cw1
            have d2 := blk_cell hf3 0
            have d3 := blk_cell hf3 2
            have HB3 := Lib.hid ((Below.refl wr.heap.size wr).alloc (Nat.le_refl _) (.cells #[.string nm, .func (.func 46) #[] #[.pointer (some ⟨b1, 0, none⟩), .pointer (some ⟨b2, 0, none⟩)], .func (.func 48) #[] #[.pointer (some ⟨b2, 0, none⟩), .pointer (some ⟨b1, 0, none⟩)]] 38))
            have HPS3 := Lib.hid (HPk.out.next HB3.out)
            have HD := Lib.hid (And.intro d0 (And.intro d1 (And.intro d2 d3)))
            have HF3 := Lib.hid hf3
            clear hf3 d0 d1 d2 d3
            go_wp2_with fail
            generalize wr.alloc (.cells #[.string nm, .func (.func 46) #[] #[.pointer (some ⟨b1, 0, none⟩), .pointer (some ⟨b2, 0, none⟩)], .func (.func 48) #[] #[.pointer (some ⟨b2, 0, none⟩), .pointer (some ⟨b1, 0, none⟩)]] 38) = w3 at HB3 HPS3 HD HF3 ⊢
            obtain ⟨d0, d1, d2, d3⟩ := HD.out
            have hl3 := blk_lt HF3.out
            have hq3 : q < w3.heap.size := World.block_lt_of_cell? w3 _ d0
            have hgl3 : q ≠ w.heap.size + 1 := HQN.out
            have hfl3 : wr.heap.size ≠ w.heap.size + 1 := by have := HPk.out.zl; omega
            have HNE := Lib.hid (And.intro hgl3 hfl3)
            clear hgl3 hfl3 cw0 cw1 hix
            go_region_held3 (fun w' => w'.cell? ⟨q, 2 * k, none⟩ = some (.string y0) ∧ w'.cell? ⟨q, 2 * k + 1, none⟩ = some (.string y1) ∧ w'.cell? ⟨wr.heap.size, 0, none⟩ = some (.string nm) ∧ w'.cell? ⟨wr.heap.size, 2, none⟩ = #[.string nm, .func (.func 46) #[] #[.pointer (some ⟨b1, 0, none⟩), .pointer (some ⟨b2, 0, none⟩)], .func (.func 48) #[] #[.pointer (some ⟨b2, 0, none⟩), .pointer (some ⟨b1, 0, none⟩)]][2]?)
              (first
                | exact ⟨HGR4.out.cell HD.out.1 (fun e => HNE.out.1 (by injection e)), HGR4.out.cell HD.out.2.1 (fun e => HNE.out.1 (by injection e)), HGR4.out.cell HD.out.2.2.1 (fun e => HNE.out.2 (by injection e)), HGR4.out.cell HD.out.2.2.2 (fun e => HNE.out.2 (by injection e))⟩
                | exact ⟨HD.out.1, HD.out.2.1, HD.out.2.2.1, HD.out.2.2.2⟩)
              ((go_at_call 48
                (with_reducible refine (HWC.out _ (below_drew HB3.out)).mono ?_)
                rintro e w4 ⟨ok, v, rfl, hgr, hblk, h0, hps⟩
                have HGR4 := Lib.hid (show w3.grownBy w4 (some (w.heap.size + 1)) from ⟨hgr.os, hgr.tape, hgr.output, hgr.size, hgr.block⟩)
                have HBLK := Lib.hid hblk
                have H0 := Lib.hid (And.intro h0 hps)
                clear hgr hblk h0 hps))
            have HPS4 := Lib.hid (HPS3.out.only HGR4.out)
            clear d0 d1 d2 d3 hq3 hl3
            cases ok
            · have hinf := info24
              have HBAD := Lib.hid (round_bad H0.out.1 H0.out.2)
              have HNC := Lib.hid (noCf_text (noCf_bad HLT.out (show ¬ GoodK (cutAt 32 s.data.toList) k from by rw [HCUT.out]; exact HBAD.out)))
              go_wp2_with (refine wpList_store_mid rfl _ _ _ rfl w.heap.size 0 cfNil rfl rfl (there_len' (n := 12) HPS4.out.res rfl) hinf nil_one ?_)
              exact parse_ret (cells := cfNil.toList) rfl rfl rfl rfl (there_len' (n := 12) HPS4.out.res rfl) ⟨.inr ⟨HNC.out, rfl⟩, below_setCells (Nat.le_refl _) _ 0 _ _ HPS4.out.below⟩
            · obtain ⟨A', zs', cap', q1, q2, q3, q4, q5⟩ := round_next HLT.out HGD.out HZS.out HOk.out HBLK.out HGR4.out HB3.out (blk_lt HGC2.out) HGk.out (by rw [HE0.out, HNQ.out, HNM.out]) H0.out.1 H0.out.2
              have HQ := Lib.hid (And.intro q1 (And.intro q2 (And.intro q3 (And.intro q4 q5))))
              clear q1 q2 q3 q4 q5
              go_wp2_with fail
              go_roundw
              case rel => exact ⟨k + 1, A', zs', cap', by omega, by go_num, Lib.hid HQ.out.1, Lib.hid HQ.out.2.1, Lib.hid HQ.out.2.2.1, Lib.hid HQ.out.2.2.2.1, Lib.hid HQ.out.2.2.2.2⟩
              case measure => simp [intOf]; omega
          · unfold fraF at hix
            as_aux_lemma =>
            have HWC := Lib.hid hw
            clear hw
            have hf3 := heap_alloc_new wr (.cells #[.string nm, .func (.func 52) #[] #[.pointer (some ⟨b1, 0, none⟩), .pointer (some ⟨b2, 0, none⟩)], .func (.func 54) #[] #[.pointer (some ⟨b2, 0, none⟩), .pointer (some ⟨b1, 0, none⟩)]] 38)
            have d0 := (World.cell?_alloc_lt wr (.cells #[.string nm, .func (.func 52) #[] #[.pointer (some ⟨b1, 0, none⟩), .pointer (some ⟨b2, 0, none⟩)], .func (.func 54) #[] #[.pointer (some ⟨b2, 0, none⟩), .pointer (some ⟨b1, 0, none⟩)]] 38) ⟨q, 2 * k, none⟩ hql).trans cw0
            have d1 := (World.cell?_alloc_lt wr (.cells #[.string nm, .func (.func 52) #[] #[.pointer (some ⟨b1, 0, none⟩), .pointer (some ⟨b2, 0, none⟩)], .func (.func 54) #[] #[.pointer (some ⟨b2, 0, none⟩), .pointer (some ⟨b1, 0, none⟩)]] 38) ⟨q, 2 * k + 1, none⟩ hql).trans cw1
            have d2 := blk_cell hf3 0
            have d3 := blk_cell hf3 2
            have HB3 := Lib.hid ((Below.refl wr.heap.size wr).alloc (Nat.le_refl _) (.cells #[.string nm, .func (.func 52) #[] #[.pointer (some ⟨b1, 0, none⟩), .pointer (some ⟨b2, 0, none⟩)], .func (.func 54) #[] #[.pointer (some ⟨b2, 0, none⟩), .pointer (some ⟨b1, 0, none⟩)]] 38))
            have HPS3 := Lib.hid (HPk.out.next HB3.out)
            have HD := Lib.hid (And.intro d0 (And.intro d1 (And.intro d2 d3)))
            have HF3 := Lib.hid hf3
            clear hf3 d0 d1 d2 d3
            go_wp2_with fail
            generalize wr.alloc (.cells #[.string nm, .func (.func 52) #[] #[.pointer (some ⟨b1, 0, none⟩), .pointer (some ⟨b2, 0, none⟩)], .func (.func 54) #[] #[.pointer (some ⟨b2, 0, none⟩), .pointer (some ⟨b1, 0, none⟩)]] 38) = w3 at HB3 HPS3 HD HF3 ⊢
            obtain ⟨d0, d1, d2, d3⟩ := HD.out
            have hl3 := blk_lt HF3.out
            have hq3 : q < w3.heap.size := World.block_lt_of_cell? w3 _ d0
            have hgl3 : q ≠ w.heap.size + 1 := HQN.out
            have hfl3 : wr.heap.size ≠ w.heap.size + 1 := by have := HPk.out.zl; omega
            have HNE := Lib.hid (And.intro hgl3 hfl3)
            clear hgl3 hfl3 cw0 cw1 hix
            go_region_held3 (fun w' => w'.cell? ⟨q, 2 * k, none⟩ = some (.string y0) ∧ w'.cell? ⟨q, 2 * k + 1, none⟩ = some (.string y1) ∧ w'.cell? ⟨wr.heap.size, 0, none⟩ = some (.string nm) ∧ w'.cell? ⟨wr.heap.size, 2, none⟩ = #[.string nm, .func (.func 52) #[] #[.pointer (some ⟨b1, 0, none⟩), .pointer (some ⟨b2, 0, none⟩)], .func (.func 54) #[] #[.pointer (some ⟨b2, 0, none⟩), .pointer (some ⟨b1, 0, none⟩)]][2]?)
              (first
                | exact ⟨HGR4.out.cell HD.out.1 (fun e => HNE.out.1 (by injection e)), HGR4.out.cell HD.out.2.1 (fun e => HNE.out.1 (by injection e)), HGR4.out.cell HD.out.2.2.1 (fun e => HNE.out.2 (by injection e)), HGR4.out.cell HD.out.2.2.2 (fun e => HNE.out.2 (by injection e))⟩
                | exact ⟨HD.out.1, HD.out.2.1, HD.out.2.2.1, HD.out.2.2.2⟩)
              ((go_at_call 54
                (with_reducible refine (HWC.out _ (below_drew HB3.out)).mono ?_)
                rintro e w4 ⟨ok, v, rfl, hgr, hblk, h0, hps⟩
                have HGR4 := Lib.hid (show w3.grownBy w4 (some (w.heap.size + 1)) from ⟨hgr.os, hgr.tape, hgr.output, hgr.size, hgr.block⟩)
                have HBLK := Lib.hid hblk
                have H0 := Lib.hid (And.intro h0 hps)
                clear hgr hblk h0 hps))
            have HPS4 := Lib.hid (HPS3.out.only HGR4.out)
            clear d0 d1 d2 d3 hq3 hl3
            cases ok
            · have hinf := info24
              have HBAD := Lib.hid (round_bad H0.out.1 H0.out.2)
              have HNC := Lib.hid (noCf_text (noCf_bad HLT.out (show ¬ GoodK (cutAt 32 s.data.toList) k from by rw [HCUT.out]; exact HBAD.out)))
              go_wp2_with (refine wpList_store_mid rfl _ _ _ rfl w.heap.size 0 cfNil rfl rfl (there_len' (n := 12) HPS4.out.res rfl) hinf nil_one ?_)
              exact parse_ret (cells := cfNil.toList) rfl rfl rfl rfl (there_len' (n := 12) HPS4.out.res rfl) ⟨.inr ⟨HNC.out, rfl⟩, below_setCells (Nat.le_refl _) _ 0 _ _ HPS4.out.below⟩
            · obtain ⟨A', zs', cap', q1, q2, q3, q4, q5⟩ := round_next HLT.out HGD.out HZS.out HOk.out HBLK.out HGR4.out HB3.out (blk_lt HGC2.out) HGk.out (by rw [HE0.out, HNQ.out, HNM.out]) H0.out.1 H0.out.2
              have HQ := Lib.hid (And.intro q1 (And.intro q2 (And.intro q3 (And.intro q4 q5))))
              clear q1 q2 q3 q4 q5
              go_wp2_with fail
              go_roundw
              case rel => exact ⟨k + 1, A', zs', cap', by omega, by go_num, Lib.hid HQ.out.1, Lib.hid HQ.out.2.1, Lib.hid HQ.out.2.2.1, Lib.hid HQ.out.2.2.2.1, Lib.hid HQ.out.2.2.2.2⟩
              case measure => simp [intOf]; omega
        · have hs0 := str_neB hn
          have HNC := Lib.hid (noCf_text (noCf_bad HLT.out (fun h : GoodK (cutAt 32 s.data.toList) k => hn (by rw [← HE0.out, ← HCUT.out, h.1, HNM.out]))))
          have HTR := Lib.hid (there_len' (n := 12) HPk.out.res rfl)
          have HBX := Lib.hid HPk.out.below
          have hinf := info24
          clear hn
          rcases hfr with ⟨b, rfl, hw⟩ | ⟨b1, b2, rfl, hw⟩ | ⟨b1, b2, rfl, hw⟩
          · as_aux_lemma =>
            clear hw
            go_wp2_with fail
            go_quiet (fail)
            go_wp2_with (refine wpList_store_mid rfl _ _ _ rfl w.heap.size 0 cfNil rfl rfl (there_len' (n := 12) (blk_drewN (blk_alloc HPk.out.res _) _) rfl) hinf nil_one ?_)
            exact parse_ret (cells := cfNil.toList) rfl rfl rfl rfl (there_len' (n := 12) (blk_drewN (blk_alloc HPk.out.res _) _) rfl) ⟨.inr ⟨HNC.out, rfl⟩, below_setCells (Nat.le_refl _) _ 0 _ _ (below_drewN (HBX.out.alloc HBX.out.size _) _)⟩
          · unfold decF at hix
            as_aux_lemma =>
            clear hw
            go_wp2_with fail
            go_quiet (fail)
            go_wp2_with (refine wpList_store_mid rfl _ _ _ rfl w.heap.size 0 cfNil rfl rfl (there_len' (n := 12) (blk_drewN (blk_alloc HPk.out.res _) _) rfl) hinf nil_one ?_)
            exact parse_ret (cells := cfNil.toList) rfl rfl rfl rfl (there_len' (n := 12) (blk_drewN (blk_alloc HPk.out.res _) _) rfl) ⟨.inr ⟨HNC.out, rfl⟩, below_setCells (Nat.le_refl _) _ 0 _ _ (below_drewN (HBX.out.alloc HBX.out.size _) _)⟩
          · unfold fraF at hix
            as_aux_lemma =>
            clear hw
            go_wp2_with fail
            go_quiet (fail)
            go_wp2_with (refine wpList_store_mid rfl _ _ _ rfl w.heap.size 0 cfNil rfl rfl (there_len' (n := 12) (blk_drewN (blk_alloc HPk.out.res _) _) rfl) hinf nil_one ?_)
            exact parse_ret (cells := cfNil.toList) rfl rfl rfl rfl (there_len' (n := 12) (blk_drewN (blk_alloc HPk.out.res _) _) rfl) ⟨.inr ⟨HNC.out, rfl⟩, below_setCells (Nat.le_refl _) _ 0 _ _ (below_drewN (HBX.out.alloc HBX.out.size _) _)⟩
      · have hke : k = 12 := by omega
        subst hke
        obtain ⟨zs2, g1, g2, g3, g4⟩ := cf_of_good HLW24.out HGD.out
        obtain rfl : zs = zs2 := by have := HZS.out.1 (by decide); rw [g1] at this; injection this with e; exact e.symm
        have hx : s.data.toList = cfText zs (cfOf Wd) := by
          have := join_cutAt 32 s.data.toList
          rw [HCUT.out, g4] at this
          exact this.symm
        have hcells : (wr.heap[w.heap.size + 1]? = some (.cells (cfCells A zs.length cap (cfOf Wd)) 24 (0, 0))) := HCk.out
        have hrg : wr.rangeAt (w.heap.size + 1) 0 (cfCells A zs.length cap (cfOf Wd)).toList := fun j v hv => (blk_cell hcells (0 + j)).trans (by rw [Nat.zero_add]; simpa using hv)
        have hown := own_only HOk.out (only_setCells (cfCells A zs.length cap (cfOf Wd)).toList 0 (only_refl wr (some w.heap.size))) (by have := blk_lt HGC2.out; omega)
        have HOW := Lib.hid (rd_of_own hown)
        have HRG := Lib.hid hrg
        have HC := Lib.hid (And.intro g2 (And.intro g3 hx))
        have hone : (cfCells A zs.length cap (cfOf Wd)).all (·.oneCell') = true := by simp [cfCells, Value.oneCell']
        have HONE := Lib.hid hone
        have HPS4 := Lib.hid HPk.out
        have hinf := info24
        clear g1 g2 g3 g4 hx hcells hrg hown hone HOk HCk HGk HZS HGD HPk HIX
        generalize hcc : cfCells A zs.length cap (cfOf Wd) = CC at HRG HOW HONE
        have hcs : CC.size = 12 := by rw [← hcc]; rfl
        have hcl : CC.toList.length = 12 := by simpa using hcs
        have HCC := Lib.hid hcc
        have HCL := Lib.hid hcl
        have HI1 := Lib.hid (show (Tryz.prog.info? 24).map (·.size) = some CC.toList.length by rw [hcl]; exact hinf)
        have HI2 := Lib.hid (show (Tryz.prog.info? 24).map (·.size) = some CC.size by rw [hcs]; exact hinf)
        have HTH := Lib.hid (show wr.there w.heap.size 0 CC.size from there_len' HPS4.out.res (by rw [hcs]; rfl))
        clear hcc hcs hcl hinf
        go_wp2_with (first
          | (refine wpList_load_mid rfl _ _ rfl (w.heap.size + 1) 0 rfl CC.toList _ HRG.out Tryz.underlying24 rfl HI1.out ?_)
          | (refine wpList_store_mid rfl _ _ _ rfl w.heap.size 0 CC rfl rfl HTH.out HI2.out HONE.out ?_))
        refine parse_ret (cells := CC.toList) rfl rfl rfl HCL.out (there_len' (n := 12) HPS4.out.res rfl) ⟨.inl ⟨A, cap, zs, cfOf Wd, HC.out.1, HC.out.2.1, HC.out.2.2, ?_, HOW.out⟩, below_setCells (Nat.le_refl _) _ 0 _ _ HPS4.out.below⟩
        rw [HCC.out]
  · have h24' : ((ws.length : Int) != 24) = true := by simp; omega
    have HN := Lib.hid (noCf_text (noCf_len (fun e => h24 (HLW.out ▸ e))))
    have HTR := Lib.hid (there_len' (n := 12) HPS2.out.res rfl)
    clear h24
    go_wp2_with (refine wpList_store_mid rfl _ _ _ rfl w.heap.size 0 cfNil rfl rfl HTR.out hinf nil_one ?_)
    have HBX := Lib.hid HPS2.out.below
    exact parse_ret (cells := cfNil.toList) rfl rfl rfl rfl HTR.out ⟨.inr ⟨HN.out, rfl⟩, below_setCells (Nat.le_refl _) _ 0 _ _ HBX.out⟩

end Go.Proofs.YtiokdfkddcokoaaGreatDoor
