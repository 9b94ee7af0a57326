/- Walk: the reference's Parse of a configuration. Conditions: none. -/
import Derived.Test.YtiokdfkddcokoaaGreatDoorConfParse
import Derived.Test.YtiokdfkddcokoaaGreatDoorRefConfT
import Derived.Test.YtiokdfkddcokoaaGreatDoorRefConfN
import Derived.Test.YtiokdfkddcokoaaGreatDoorRefParse
namespace Go.Proofs.YtiokdfkddcokoaaGreatDoor
open Go.RowKit

/-- The configuration that the reference makes of words. -/
noncomputable def cfRW (W : List (List UInt8)) : Cf := ⟨nOf (W.getD 3 []), (parseS (W.getD 5 []) (nOf (W.getD 3 []))).1, (parseS (W.getD 7 []) (nOf (W.getD 3 []))).1, nOf (W.getD 9 []), nOf (W.getD 11 []), nOf (W.getD 13 []), nOf (W.getD 15 []), nOf (W.getD 17 []), nOf (W.getD 19 []), nOf (W.getD 21 []), nOf (W.getD 23 [])⟩
noncomputable def zsRW (W : List (List UInt8)) : List Int := (cutAt 44 (W.getD 1 [])).map nOf

theorem nOf_itoa {x : Int} (h : In20 x) : nOf (Lib.itoa x) = x := by unfold nOf; rw [natS_yes h (Int.le_refl _)]
theorem nOf_in (l : List UInt8) : In20 (nOf l) := natS_in l (by decide)
theorem parseS_in (l : List UInt8) (q : Int) : In64 (parseS l q).1 := by
  by_cases hq : 0 ≤ q ∧ q ≤ 62
  · obtain ⟨n, rfl⟩ := Int.eq_ofNat_of_zero_le hq.1
    by_cases hex : ∃ x, In64 x ∧ l = decText x n
    · obtain ⟨x, hx, e⟩ := hex
      rw [parseS_yes (by omega) hx e]
      exact hx
    · rw [parseS_no (fun x hx e => hex ⟨x, hx, e⟩)]
      show In64 0
      unfold In64
      omega
  · rw [parseS_out hq]
    show In64 0
    unfold In64
    omega
theorem rw_64 (W : List (List UInt8)) : Cf64 (zsRW W) (cfRW W) := by
  refine ⟨fun z hz => ?_, fun k => ?_⟩
  · obtain ⟨y, _, rfl⟩ := List.mem_map.1 hz
    exact (nOf_in y).in64
  · unfold numK
    split
    · exact (nOf_in _).in64
    · exact parseS_in _ _
    · exact parseS_in _ _
    · exact (nOf_in _).in64
    · exact (nOf_in _).in64
    · exact (nOf_in _).in64
    · exact (nOf_in _).in64
    · exact (nOf_in _).in64
    · exact (nOf_in _).in64
    · exact (nOf_in _).in64
    · exact (nOf_in _).in64
    · unfold In64; omega
theorem rw_words {zs : List Int} {c : Cf} (h : CfOk zs c) (h64 : Cf64 zs c) : zsRW (cfWords zs c) = zs ∧ cfRW (cfWords zs c) = c := by
  constructor
  · show (cutAt 44 (szText zs)).map nOf = zs
    rw [cutAt_sz h.ne, List.map_map]
    have : ∀ l : List Int, (∀ z ∈ l, In20 z) → l.map (nOf ∘ Lib.itoa) = l := by
      intro l
      induction l with
      | nil => intro _; rfl
      | cons x r ih => intro hl; rw [List.map_cons, ih (fun z hz => hl z (by simp [hz]))]; show nOf (Lib.itoa x) :: r = _; rw [nOf_itoa (hl x (by simp))]
    exact this zs h.sz
  · have hsh : nOf (Lib.itoa c.sh) = c.sh := nOf_itoa (by have := h.sh; unfold In20; omega)
    have hn : (c.sh.toNat : Int) = c.sh := Int.toNat_of_nonneg h.sh.1
    have hq : c.sh.toNat ≤ 62 := by have := h.sh.2; omega
    have p2 := parseS_yes (q := c.sh.toNat) hq (h64.2 2) rfl
    have p3 := parseS_yes (q := c.sh.toNat) hq (h64.2 3) rfl
    rw [hn] at p2 p3
    show Cf.mk (nOf (Lib.itoa c.sh)) (parseS (decText c.ra c.sh.toNat) (nOf (Lib.itoa c.sh))).1 (parseS (decText c.mo c.sh.toNat) (nOf (Lib.itoa c.sh))).1 (nOf (Lib.itoa c.wo)) (nOf (Lib.itoa c.ba)) (nOf (Lib.itoa c.mi)) (nOf (Lib.itoa c.st)) (nOf (Lib.itoa c.bu)) (nOf (Lib.itoa c.ch)) (nOf (Lib.itoa c.wi)) (nOf (Lib.itoa c.ca)) = c
    have q2 : (parseS (decText c.ra c.sh.toNat) c.sh).1 = c.ra := congrArg Prod.fst p2
    have q3 : (parseS (decText c.mo c.sh.toNat) c.sh).1 = c.mo := congrArg Prod.fst p3
    rw [hsh, q2, q3, nOf_itoa h.wo, nOf_itoa h.ba, nOf_itoa h.mi, nOf_itoa h.st, nOf_itoa h.bu, nOf_itoa h.ch, nOf_itoa h.wi, nOf_itoa h.ca]
theorem rw_no {l : List UInt8} (h : ¬ (cfB (zsRW (cutAt 32 l)) (cfRW (cutAt 32 l)) = true ∧ l = cfText (zsRW (cutAt 32 l)) (cfRW (cutAt 32 l)))) : ∀ zs c, CfOk zs c → Cf64 zs c → l ≠ cfText zs c := fun zs c h1 h2 e => by
  apply h
  have hw : cutAt 32 l = cfWords zs c := by rw [e, cutAt_cf]
  obtain ⟨e1, e2⟩ := rw_words h1 h2
  rw [hw, e1, e2]
  exact ⟨cfB_iff.2 h1, e⟩

theorem Keeps.mk (w : World) (o : Obj) : Keeps w (w.alloc o).drew := below_drew ((Below.refl _ _).alloc (Nat.le_refl _) _)

def storeSem (T : TypeId) (vx vy : Value) : Sem Next := do Instr.storeAt T vx vy; pure .skip
theorem execOp_storeC (ρ : Operand → Value) (dst : Option Tmp) (x y : Operand) (ty : TypeId) (pos : String) (after : Array Edge) (guard : Option (Nat × Bool)) :
    execOp ρ { dst, op := .store 24 x y, type := ty, pos, after, guard } = storeSem 24 (ρ x) (ρ y) := rfl
/-- A whole struct may be stored at the head of a block. -/
def StoreOk (P : Program) (T : TypeId) (w : World) (b : Nat) (cells : List Value) : Prop := (P.info? T).map (·.size) = some cells.length ∧ w.there b 0 cells.length ∧ ∀ v ∈ cells, v.oneCell' = true
theorem run_storeSem (P : Program) (T : TypeId) (b : Nat) (cells : List Value) (w : World) (h : StoreOk P T w b cells) :
    (storeSem T (.pointer (some ⟨b, 0, none⟩)) (.agg cells.toArray)).run P w = .ok .skip (w.setCells b 0 cells) := by
  unfold storeSem
  rw [Sem.run_bind, run_storeAt_mid w b 0 T cells.toArray (by simpa using h.2.1) (by simpa using h.1) (all_oneCell_toArray h.2.2)]
  simp [Sem.run_pure, Result.andThen_ok]

/-- What stands behind the literal: the new configuration, all else as it was. -/
def RPost (w1 : World) (zs : List Int) (n3 n9 n11 n13 n15 n17 n19 n21 n23 : Int) (s5 : Value) (W : World) : Prop := ∃ (G : Nat) (zA : Option Addr) (zc : Nat), s5 = .pointer (some ⟨G, 0, none⟩) ∧ Hid (W.heap[G]? = some (.cells #[.slice zA zs.length zc, .int .i64 n3, (.int .i64 0), (.int .i64 0), .int .i64 n9, .int .i64 n11, .int .i64 n13, .int .i64 n15, .int .i64 n17, .int .i64 n19, .int .i64 n21, .int .i64 n23] 24 (0, 0))) ∧ Hid (Keeps w1 W) ∧ Hid (w1.heap.size ≤ G) ∧ Hid (RdI W W.heap.size zA zs ∧ ∀ a, zA = some a → w1.heap.size ≤ a.block ∧ a.block ≠ G)

def setAll (C : Array Value) : Nat → List Value → Array Value
  | _, [] => C
  | o, v :: r => setAll (C.setIfInBounds o v) (o + 1) r
theorem blk_sets {z : Nat} {t : TypeId} : ∀ (vs : List Value) (o : Nat) (W : World) (C : Array Value), W.heap[z]? = some (.cells C t (0, 0)) → (W.setCells z o vs).heap[z]? = some (.cells (setAll C o vs) t (0, 0))
  | [], _, _, _, h => h
  | v :: r, o, _, _, h => blk_sets r (o + 1) _ _ (blk_set h o v)
theorem size_setCells (b : Nat) : ∀ (vs : List Value) (o : Nat) (W : World), (W.setCells b o vs).heap.size = W.heap.size
  | [], _, _ => rfl
  | v :: r, o, W => (size_setCells b r (o + 1) _).trans (by simp [World.setCell])
theorem rd_far {W W' : World} {B G : Nat} {A : Option Addr} {zs : List Int} (h : RdI W B A zs) (hne : ∀ a, A = some a → a.block ≠ G) (hk : ∀ i, i ≠ G → W'.heap[i]? = W.heap[i]?) : RdI W' B A zs := fun h0 => by
  obtain ⟨b, off, e, hb, hc⟩ := h h0
  refine ⟨b, off, e, hb, fun j u hu => ?_⟩
  have h1 := hc j u hu
  have h2 := hk b (hne _ e)
  unfold World.cell? at h1 ⊢
  rwa [h2]
theorem own_apart {w : World} {base e size n cap : Nat} {A : Option Addr} {xs : List Value} (h : w.ownsRow base e size (.slice A n cap) n xs) : ∀ a, A = some a → base ≤ a.block ∧ a.block < w.heap.size := fun a ea => by
  subst ea
  exact h.lt a.block rfl

theorem Keeps.more {w1 W : World} (h : Keeps w1 W) (o : Obj) : Keeps w1 (W.alloc o) := Below.alloc h (Below.size h) o
theorem Keeps.set0 {w1 W : World} (h : Keeps w1 W) (vs : List Value) : Keeps w1 (W.setCells w1.heap.size 0 vs) := below_setCells (Nat.le_refl _) _ 0 _ _ h
theorem Keeps.setA {w1 W : World} (h : Keeps w1 W) (o : Obj) (vs : List Value) : Keeps w1 ((W.alloc o).setCells W.heap.size 0 vs) := below_setCells (Below.size h) _ 0 _ _ (h.more o)
theorem rp_end {w1 W0 : World} {G zc : Nat} {zA : Option Addr} {zs : List Int} {n3 n9 n11 n13 n15 n17 n19 n21 n23 : Int} (hk : Keeps w1 W0) (hG : w1.heap.size ≤ G) (hb : W0.heap[G]? = some (.cells #[.slice none 0 0, .int .i64 0, .int .i64 0, .int .i64 0, .int .i64 0, .int .i64 0, .int .i64 0, .int .i64 0, .int .i64 0, .int .i64 0, .int .i64 0, .int .i64 0] 24 (0, 0))) (hr : RdI W0 W0.heap.size zA zs) (hne : ∀ a, zA = some a → w1.heap.size ≤ a.block ∧ a.block ≠ G) :
    RPost w1 zs n3 n9 n11 n13 n15 n17 n19 n21 n23 (.pointer (some ⟨G, 0, none⟩)) (W0.setCells G 0 [.slice zA zs.length zc, .int .i64 n3, (.int .i64 0), (.int .i64 0), .int .i64 n9, .int .i64 n11, .int .i64 n13, .int .i64 n15, .int .i64 n17, .int .i64 n19, .int .i64 n21, .int .i64 n23]) :=
  ⟨G, zA, zc, rfl, Lib.hid (by have h := blk_sets [.slice zA zs.length zc, .int .i64 n3, (.int .i64 0), (.int .i64 0), .int .i64 n9, .int .i64 n11, .int .i64 n13, .int .i64 n15, .int .i64 n17, .int .i64 n19, .int .i64 n21, .int .i64 n23] 0 _ _ hb; simp only [setAll, List.setIfInBounds_toArray, List.set_cons_zero, List.set_cons_succ] at h; exact h), Lib.hid (below_setCells hG _ 0 _ _ hk), Lib.hid hG, Lib.hid ⟨by rw [size_setCells]; exact rd_far hr (fun a ea => (hne a ea).2) (heap_setCells G _ 0 _), hne⟩⟩
theorem rp_endB {w1 w3 : World} {zc : Nat} {zA : Option Addr} {zs : List Int} {n3 n9 n11 n13 n15 n17 n19 n21 n23 : Int} (hk : Keeps w1 w3) (hr : RdI w3 w3.heap.size zA zs) (hne : ∀ a, zA = some a → w1.heap.size ≤ a.block ∧ a.block < w3.heap.size) :
    RPost w1 zs n3 n9 n11 n13 n15 n17 n19 n21 n23 (.pointer (some ⟨w3.heap.size, 0, none⟩)) (w3.alloc (.cells #[.slice zA zs.length zc, .int .i64 n3, (.int .i64 0), (.int .i64 0), .int .i64 n9, .int .i64 n11, .int .i64 n13, .int .i64 n15, .int .i64 n17, .int .i64 n19, .int .i64 n21, .int .i64 n23] 24)) :=
  ⟨w3.heap.size, zA, zc, rfl, Lib.hid (heap_alloc_new w3 _), Lib.hid (Below.alloc hk (Below.size hk) _), Lib.hid (Below.size hk), Lib.hid ⟨(hr.alloc (Nat.le_refl _) _).more (by simp), fun a ea => ⟨(hne a ea).1, Nat.ne_of_lt (hne a ea).2⟩⟩⟩
theorem rp_endC {w1 w3 : World} {zc : Nat} {zA : Option Addr} {zs : List Int} {n3 n9 n11 n13 n15 n17 n19 n21 n23 : Int} (hk : Keeps w1 w3) (hr : RdI w3 w3.heap.size zA zs) (hne : ∀ a, zA = some a → w1.heap.size ≤ a.block ∧ a.block < w3.heap.size) :
    RPost w1 zs n3 n9 n11 n13 n15 n17 n19 n21 n23 (.pointer (some ⟨w3.heap.size, 0, none⟩)) ((w3.alloc (.cells #[.slice none 0 0, .int .i64 0, .int .i64 0, .int .i64 0, .int .i64 0, .int .i64 0, .int .i64 0, .int .i64 0, .int .i64 0, .int .i64 0, .int .i64 0, .int .i64 0] 24)).setCells w3.heap.size 0 [.slice zA zs.length zc, .int .i64 n3, (.int .i64 0), (.int .i64 0), .int .i64 n9, .int .i64 n11, .int .i64 n13, .int .i64 n15, .int .i64 n17, .int .i64 n19, .int .i64 n21, .int .i64 n23]) :=
  rp_end (hk.more _) (Below.size hk) (heap_alloc_new w3 _) ((hr.alloc (Nat.le_refl _) _).more (by simp)) (fun a ea => ⟨(hne a ea).1, Nat.ne_of_lt (hne a ea).2⟩)

theorem own_str {w : World} {base cap : Nat} {A : Option Addr} {ws : List ByteArray} (h : w.ownsRow base 9 1 (.slice A ws.length cap) ws.length (ws.map Value.string)) (h0 : 0 < ws.length) :
    ∃ g, A = some ⟨g, 0, none⟩ ∧ base ≤ g ∧ ∀ j y, ws[j]? = some y → w.cell? ⟨g, j, none⟩ = some (.string y) := by
  rcases h.2 with ⟨hv, hz⟩ | ⟨g, c, cur, hv, hb, hh, _, _, _, ht⟩
  · omega
  · injection hv with hA _ _
    refine ⟨g, hA, hb, fun j y hy => ?_⟩
    have hu : (ws.map Value.string)[j]? = some (.string y) := by simp [hy]
    rw [blk_cell hh]
    rw [← ht, List.getElem?_take] at hu
    split at hu
    · simpa using hu
    · cases hu

theorem refParse_ret {w W : World} {l : List UInt8} {a : Act} {cells : List Value} {b : Bool} (ht2 : a.tmps.getD 2 undef = .pointer (some ⟨w.heap.size, 0, none⟩)) (ht3 : a.tmps.getD 3 undef = .bool b) (hd : a.defers = []) (hlen : cells.length = 12)
    (hth : W.there w.heap.size 0 12) (hG : GivesCf l w (.returned (.tuple #[.agg cells.toArray, .bool b])) (W.setCells w.heap.size 0 cells)) :
    bodyPost Tryz.prog Tryz.f11 (GivesCf l w) .ret a (W.setCells w.heap.size 0 cells) := by
  refine bodyPost_ret (v := .tuple #[.agg cells.toArray, .bool b]) ?_ hd hG
  have hrg := World.rangeAt_setCells_same W w.heap.size 0 cells (by rw [hlen]; exact hth)
  have ht2' : a.tmps[2]?.getD undef = .pointer (some ⟨w.heap.size, 0, none⟩) := by simpa using ht2
  have ht3' : a.tmps[3]?.getD undef = .bool b := by simpa using ht3
  have hld := run_loadVar_mid (P := Tryz.prog) (W.setCells w.heap.size 0 cells) w.heap.size 0 24 cells _ hrg Tryz.underlying24 rfl (by rw [hlen]; exact info24)
  simp [results, Tryz.results11, ht2', ht3', hld, asAddr]

attribute [local go_sem ↓] execOp_storeC
attribute [local go_sem] run_storeSem
set_option maxRecDepth 100000 in
set_option maxHeartbeats 40000000 in
theorem refConfParse_any (s : ByteArray) (hs : s.size ≤ 100000) (hw : ∀ y ∈ cutAt 32 s.data.toList, y.length ≤ 900) (w : World) :
    Calls Tryz.prog 11 #[.string s] w (GivesCf s.data.toList w) := by
  have hb1 := (Below.refl w.heap.size w).alloc (Nat.le_refl _) (.cells cfNil 24)
  have HR1 := Lib.hid (show (w.alloc (.cells cfNil 24)).heap[w.heap.size]? = some (.cells cfNil 24 (0, 0)) from heap_alloc_new w _)
  have HB1 := Lib.hid hb1
  have HWD := Lib.hid (fun W => refWords_any s W (by omega))
  have HWS := Lib.hid hw
  clear hb1 hs hw
  unfold cfNil cfCells at HR1 HB1
  dsimp only at HR1 HB1
  go_enter Tryz.func11, Tryz.ntmps11
  go_wp2_with fail
  (with_reducible refine (HWD.out _).mono ?_)
  rintro e w1 ⟨v, ws, rfl, hws, ho, hb⟩
  have HR2 := Lib.hid (show w1.heap[w.heap.size]? = some (.cells cfNil 24 (0, 0)) from blk_below HR1.out hb (blk_lt HR1.out))
  have HB2 := Lib.hid (HB1.out.trans (hb.mono HB1.out.size))
  have HO2 := Lib.hid ho
  have HWW := Lib.hid hws
  have hlw : (cutAt 32 s.data.toList).length = ws.length := by rw [← hws, List.length_map]
  have HLW := Lib.hid hlw
  obtain ⟨vA, vc, rfl⟩ := own_slice ho
  clear ho hb hws hlw HR1 HB1 HWD
  have hinf := info24
  by_cases h24 : ws.length = 24
  · rw [h24] at HO2 ⊢
    have hws24 := h24
    obtain ⟨g, rfl, hgb, hcs⟩ := own_str (by rw [hws24]; exact HO2.out) (by omega)
    obtain ⟨y1, hy1⟩ := get_some ws 1 (by omega)
    obtain ⟨y3, hy3⟩ := get_some ws 3 (by omega)
    obtain ⟨y5, hy5⟩ := get_some ws 5 (by omega)
    obtain ⟨y7, hy7⟩ := get_some ws 7 (by omega)
    obtain ⟨y9, hy9⟩ := get_some ws 9 (by omega)
    obtain ⟨y11, hy11⟩ := get_some ws 11 (by omega)
    obtain ⟨y13, hy13⟩ := get_some ws 13 (by omega)
    obtain ⟨y15, hy15⟩ := get_some ws 15 (by omega)
    obtain ⟨y17, hy17⟩ := get_some ws 17 (by omega)
    obtain ⟨y19, hy19⟩ := get_some ws 19 (by omega)
    obtain ⟨y21, hy21⟩ := get_some ws 21 (by omega)
    obtain ⟨y23, hy23⟩ := get_some ws 23 (by omega)
    have HG := Lib.hid (show (cutAt 32 s.data.toList).getD 1 [] = y1.data.toList ∧ (cutAt 32 s.data.toList).getD 3 [] = y3.data.toList ∧ (cutAt 32 s.data.toList).getD 5 [] = y5.data.toList ∧ (cutAt 32 s.data.toList).getD 7 [] = y7.data.toList ∧ (cutAt 32 s.data.toList).getD 9 [] = y9.data.toList ∧ (cutAt 32 s.data.toList).getD 11 [] = y11.data.toList ∧ (cutAt 32 s.data.toList).getD 13 [] = y13.data.toList ∧ (cutAt 32 s.data.toList).getD 15 [] = y15.data.toList ∧ (cutAt 32 s.data.toList).getD 17 [] = y17.data.toList ∧ (cutAt 32 s.data.toList).getD 19 [] = y19.data.toList ∧ (cutAt 32 s.data.toList).getD 21 [] = y21.data.toList ∧ (cutAt 32 s.data.toList).getD 23 [] = y23.data.toList from by
      rw [← HWW.out]
      refine ⟨?_, ?_, ?_, ?_, ?_, ?_, ?_, ?_, ?_, ?_, ?_, ?_⟩
      · simp [List.getD, hy1]
      · simp [List.getD, hy3]
      · simp [List.getD, hy5]
      · simp [List.getD, hy7]
      · simp [List.getD, hy9]
      · simp [List.getD, hy11]
      · simp [List.getD, hy13]
      · simp [List.getD, hy15]
      · simp [List.getD, hy17]
      · simp [List.getD, hy19]
      · simp [List.getD, hy21]
      · simp [List.getD, hy23])
    have hsz : ∀ (j : Nat) (y : ByteArray), ws[j]? = some y → y.size ≤ 900 := fun j y hy => by
      have h1 := HWS.out y.data.toList (by rw [← HWW.out]; exact List.mem_map_of_mem (List.mem_of_getElem? hy))
      have h2 : y.data.toList.length = y.size := Array.length_toList
      omega
    have k1 := hcs 1 _ hy1
    have k3 := hcs 3 _ hy3
    have k5 := hcs 5 _ hy5
    have k7 := hcs 7 _ hy7
    have k9 := hcs 9 _ hy9
    have k11 := hcs 11 _ hy11
    have k13 := hcs 13 _ hy13
    have k15 := hcs 15 _ hy15
    have k17 := hcs 17 _ hy17
    have k19 := hcs 19 _ hy19
    have k21 := hcs 21 _ hy21
    have k23 := hcs 23 _ hy23
    have HSK := Lib.hid (fun W (hW : Keeps w1 W) => And.intro (hW.cell k1) (And.intro (hW.cell k3) (And.intro (hW.cell k9) (And.intro (hW.cell k11) (And.intro (hW.cell k13) (And.intro (hW.cell k15) (And.intro (hW.cell k17) (And.intro (hW.cell k19) (And.intro (hW.cell k21) (hW.cell k23))))))))))
    have HK5 := Lib.hid (And.intro k5 k7)
    have HNU := Lib.hid (fun W => numbers_any y1 W (by have := hsz 1 _ hy1; omega))
    have HN3 := Lib.hid (fun W => number_one y3 W (by have := hsz 3 _ hy3; omega))
    have HN9 := Lib.hid (fun W => number_one y9 W (by have := hsz 9 _ hy9; omega))
    have HN11 := Lib.hid (fun W => number_one y11 W (by have := hsz 11 _ hy11; omega))
    have HN13 := Lib.hid (fun W => number_one y13 W (by have := hsz 13 _ hy13; omega))
    have HN15 := Lib.hid (fun W => number_one y15 W (by have := hsz 15 _ hy15; omega))
    have HN17 := Lib.hid (fun W => number_one y17 W (by have := hsz 17 _ hy17; omega))
    have HN19 := Lib.hid (fun W => number_one y19 W (by have := hsz 19 _ hy19; omega))
    have HN21 := Lib.hid (fun W => number_one y21 W (by have := hsz 21 _ hy21; omega))
    have HN23 := Lib.hid (fun W => number_one y23 W (by have := hsz 23 _ hy23; omega))
    obtain ⟨n3, hn3⟩ : ∃ n, nOf y3.data.toList = n := ⟨_, rfl⟩
    rw [hn3] at HN3
    obtain ⟨n9, hn9⟩ : ∃ n, nOf y9.data.toList = n := ⟨_, rfl⟩
    rw [hn9] at HN9
    obtain ⟨n11, hn11⟩ : ∃ n, nOf y11.data.toList = n := ⟨_, rfl⟩
    rw [hn11] at HN11
    obtain ⟨n13, hn13⟩ : ∃ n, nOf y13.data.toList = n := ⟨_, rfl⟩
    rw [hn13] at HN13
    obtain ⟨n15, hn15⟩ : ∃ n, nOf y15.data.toList = n := ⟨_, rfl⟩
    rw [hn15] at HN15
    obtain ⟨n17, hn17⟩ : ∃ n, nOf y17.data.toList = n := ⟨_, rfl⟩
    rw [hn17] at HN17
    obtain ⟨n19, hn19⟩ : ∃ n, nOf y19.data.toList = n := ⟨_, rfl⟩
    rw [hn19] at HN19
    obtain ⟨n21, hn21⟩ : ∃ n, nOf y21.data.toList = n := ⟨_, rfl⟩
    rw [hn21] at HN21
    obtain ⟨n23, hn23⟩ : ∃ n, nOf y23.data.toList = n := ⟨_, rfl⟩
    rw [hn23] at HN23
    have HNN := Lib.hid (And.intro (hn3) (And.intro (hn9) (And.intro (hn11) (And.intro (hn13) (And.intro (hn15) (And.intro (hn17) (And.intro (hn19) (And.intro (hn21) (hn23)))))))))
    have HZ57 := Lib.hid (And.intro (hsz 5 _ hy5) (hsz 7 _ hy7))
    have HZ1 := Lib.hid (hsz 1 _ hy1)
    unfold GivesInts at HNU
    generalize hzz : (cutAt 44 y1.data.toList).map nOf = zs at HNU
    have hzl : (cutAt 44 y1.data.toList).length = zs.length := by rw [← hzz, List.length_map]
    rw [hzl] at HNU
    have HZZ := Lib.hid hzz
    have HZL := Lib.hid hzl
    clear hcs hsz h24 hws24 hzz hzl HWS HLW hy1 hy3 hy5 hy7 hy9 hy11 hy13 hy15 hy17 hy19 hy21 hy23 hn3 hn9 hn11 hn13 hn15 hn17 hn19 hn21 hn23 k5 k7 hinf
    go_upto_region 4 with fail
    go_cut [5] from 8 (fun s5 W => RPost w1 zs n3 n9 n11 n13 n15 n17 n19 n21 n23 s5 W)
    case rest =>
      unfold RPost at hcut
      obtain ⟨G, zA, zc, rfl, HL, HK, HGL, HRN⟩ := hcut
      have HRD := Lib.hid HRN.out.1
      have HNE := Lib.hid HRN.out.2
      have HGN := Lib.hid (show g ≠ G from fun e => by have h1 := World.block_lt_of_cell? w1 _ HK5.out.1; have h2 := HGL.out; dsimp only at h1; omega)
      clear HRN HSK HNU HN3 HN9 HN11 HN13 HN15 HN17 HN19 HN21 HN23 HO2
      have HS5 := Lib.hid (fun W (hW : Keeps wc W) => And.intro (hW.cell (HK.out.cell HK5.out.1)) (hW.cell (show wc.cell? ⟨G, 1, none⟩ = some (.int .i64 n3) from blk_cell HL.out 1)))
      have HT5 := Lib.hid (fun W (hW : Keeps wc W) u => And.intro ((World.cell?_setCell_other W ⟨G, 2, none⟩ ⟨g, 5, none⟩ u (fun e => HGN.out (by injection e with e1; first | exact e1 | exact e1.symm))).trans (hW.cell (HK.out.cell HK5.out.1))) ((World.cell?_setCell_other W ⟨G, 2, none⟩ ⟨G, 1, none⟩ u (fun e => by injection e with _ e1 _; exact absurd e1 (by decide))).trans (hW.cell (show wc.cell? ⟨G, 1, none⟩ = some (.int .i64 n3) from blk_cell HL.out 1))))
      have HO5 := Lib.hid (fun W (hW : Keeps wc W) => Open.keeps (W := W) (show Open wc G 2 from ⟨⟨_, blk_cell HL.out 2⟩, blk_frozen HL.out _⟩) hW)
      have HP5 := Lib.hid (fun W => refParse_any y5 n3 W (by have := HZ57.out.1; omega))
      unfold GivesParse at HP5
      obtain ⟨x5, o5, hx5⟩ : ∃ x o, parseS y5.data.toList n3 = (x, o) := ⟨_, _, rfl⟩
      rw [hx5] at HP5
      dsimp only at HP5
      have HX5 := Lib.hid hx5
      clear hx5
      go_wp2_with fail
      go_region_held3 (fun w' => w'.cell? ⟨g, 5, none⟩ = some (.string y5) ∧ w'.cell? ⟨G, 1, none⟩ = some (.int .i64 n3))
        (first
          | exact HT5.out _ HC5.out _
          | exact HS5.out _ HC5.out
          | exact HS5.out _ (Keeps.self wc))
        ((go_at_call 24
          (with_reducible refine (HP5.out _).mono ?_)
          rintro e w5 ⟨rfl, hb⟩
          have HC5 := Lib.hid (show Keeps wc w5 from Below.trans (Keeps.self wc) hb)
          obtain ⟨⟨v, hv⟩, hf⟩ := HO5.out _ HC5.out
          clear hb))
      have HL5 := Lib.hid (show (w5.setCell ⟨G, 2, none⟩ (.int .i64 x5)).heap[G]? = some (.cells #[.slice zA zs.length zc, .int .i64 n3, .int .i64 x5, (.int .i64 0), .int .i64 n9, .int .i64 n11, .int .i64 n13, .int .i64 n15, .int .i64 n17, .int .i64 n19, .int .i64 n21, .int .i64 n23] 24 (0, 0)) from blk_set (blk_below HL.out HC5.out (blk_lt HL.out)) 2 _)
      have HK5K := Lib.hid (show Keeps w1 (w5.setCell ⟨G, 2, none⟩ (.int .i64 x5)) from Below.setCell (Below.trans HK.out (Below.mono HC5.out (Below.size HK.out))) (p := ⟨G, 2, none⟩) HGL.out _)
      have HRD5 := Lib.hid (show RdI (w5.setCell ⟨G, 2, none⟩ (.int .i64 x5)) (w5.setCell ⟨G, 2, none⟩ (.int .i64 x5)).heap.size zA zs from rd_far (G := G) ((HRD.out.below HC5.out).more (by have := Below.size HC5.out; simpa [World.setCell] using this)) (fun a ea => (HNE.out a ea).2) (fun i hi => Below.heap_setCell w5 ⟨G, 2, none⟩ _ i hi))
      clear hv hf HC5 HO5 HT5 HS5 HP5 HL HK HRD
      generalize w5.setCell ⟨G, 2, none⟩ (.int .i64 x5) = wd at HL5 HK5K HRD5 ⊢
      have HS6 := Lib.hid (fun W (hW : Keeps wd W) => And.intro (hW.cell (HK5K.out.cell HK5.out.2)) (hW.cell (show wd.cell? ⟨G, 1, none⟩ = some (.int .i64 n3) from blk_cell HL5.out 1)))
      have HT6 := Lib.hid (fun W (hW : Keeps wd W) u => And.intro ((World.cell?_setCell_other W ⟨G, 3, none⟩ ⟨g, 7, none⟩ u (fun e => HGN.out (by injection e with e1; first | exact e1 | exact e1.symm))).trans (hW.cell (HK5K.out.cell HK5.out.2))) ((World.cell?_setCell_other W ⟨G, 3, none⟩ ⟨G, 1, none⟩ u (fun e => by injection e with _ e1 _; exact absurd e1 (by decide))).trans (hW.cell (show wd.cell? ⟨G, 1, none⟩ = some (.int .i64 n3) from blk_cell HL5.out 1))))
      have HO6 := Lib.hid (fun W (hW : Keeps wd W) => Open.keeps (W := W) (show Open wd G 3 from ⟨⟨_, blk_cell HL5.out 3⟩, blk_frozen HL5.out _⟩) hW)
      have HP6 := Lib.hid (fun W => refParse_any y7 n3 W (by have := HZ57.out.2; omega))
      unfold GivesParse at HP6
      obtain ⟨x6, o6, hx6⟩ : ∃ x o, parseS y7.data.toList n3 = (x, o) := ⟨_, _, rfl⟩
      rw [hx6] at HP6
      dsimp only at HP6
      have HX6 := Lib.hid hx6
      clear hx6
      go_wp2_with fail
      go_region_held3 (fun w' => w'.cell? ⟨g, 7, none⟩ = some (.string y7) ∧ w'.cell? ⟨G, 1, none⟩ = some (.int .i64 n3))
        (first
          | exact HT6.out _ HC6.out _
          | exact HS6.out _ HC6.out
          | exact HS6.out _ (Keeps.self wd))
        ((go_at_call 24
          (with_reducible refine (HP6.out _).mono ?_)
          rintro e w6 ⟨rfl, hb⟩
          have HC6 := Lib.hid (show Keeps wd w6 from Below.trans (Keeps.self wd) hb)
          obtain ⟨⟨v, hv⟩, hf⟩ := HO6.out _ HC6.out
          clear hb))
      have HL56 := Lib.hid (show (w6.setCell ⟨G, 3, none⟩ (.int .i64 x6)).heap[G]? = some (.cells #[.slice zA zs.length zc, .int .i64 n3, .int .i64 x5, .int .i64 x6, .int .i64 n9, .int .i64 n11, .int .i64 n13, .int .i64 n15, .int .i64 n17, .int .i64 n19, .int .i64 n21, .int .i64 n23] 24 (0, 0)) from blk_set (blk_below HL5.out HC6.out (blk_lt HL5.out)) 3 _)
      have HK5K6 := Lib.hid (show Keeps w1 (w6.setCell ⟨G, 3, none⟩ (.int .i64 x6)) from Below.setCell (Below.trans HK5K.out (Below.mono HC6.out (Below.size HK5K.out))) (p := ⟨G, 3, none⟩) HGL.out _)
      have HRD56 := Lib.hid (show RdI (w6.setCell ⟨G, 3, none⟩ (.int .i64 x6)) (w6.setCell ⟨G, 3, none⟩ (.int .i64 x6)).heap.size zA zs from rd_far (G := G) ((HRD5.out.below HC6.out).more (by have := Below.size HC6.out; simpa [World.setCell] using this)) (fun a ea => (HNE.out a ea).2) (fun i hi => Below.heap_setCell w6 ⟨G, 3, none⟩ _ i hi))
      clear hv hf HC6 HO6 HT6 HS6 HP6 HL5 HK5K HRD5
      generalize w6.setCell ⟨G, 3, none⟩ (.int .i64 x6) = we at HL56 HK5K6 HRD56 ⊢

      have hcf : cfRW (cutAt 32 s.data.toList) = ⟨n3, x5, x6, n9, n11, n13, n15, n17, n19, n21, n23⟩ := by
        obtain ⟨g1, g3, g5, g7, g9, g11, g13, g15, g17, g19, g21, g23⟩ := HG.out
        obtain ⟨m3, m9, m11, m13, m15, m17, m19, m21, m23⟩ := HNN.out
        unfold cfRW
        rw [g3, g5, g7, g9, g11, g13, g15, g17, g19, g21, g23, m3, m9, m11, m13, m15, m17, m19, m21, m23, HX5.out, HX6.out] <;> rfl
      have hzs : zsRW (cutAt 32 s.data.toList) = zs := by
        unfold zsRW
        rw [HG.out.1]
        exact HZZ.out
      have h64 := rw_64 (cutAt 32 s.data.toList)
      have hzl : zs.length ≤ 1000 := by
        have h1 := cutAt_len 44 y1.data.toList
        have h2 := HZL.out
        have h3 := HZ1.out
        have h4 : y1.data.toList.length = y1.size := Array.length_toList
        omega
      have hnc : ¬ (cfB zs ⟨n3, x5, x6, n9, n11, n13, n15, n17, n19, n21, n23⟩ = true ∧ s.data.toList = cfText zs ⟨n3, x5, x6, n9, n11, n13, n15, n17, n19, n21, n23⟩) → ∀ zs c, CfOk zs c → Cf64 zs c → s.data.toList ≠ cfText zs c := fun h => rw_no (by rw [hcf, hzs]; exact h)
      rw [hcf, hzs] at h64
      have HNC := Lib.hid hnc
      have H64 := Lib.hid h64
      have HTX := Lib.hid (refConfText_any zA zc zs ⟨n3, x5, x6, n9, n11, n13, n15, n17, n19, n21, n23⟩ h64 hzl we HRD56.out)
      have HR9 := Lib.hid (fun W (hW : Keeps we W) => blk_below HR2.out (Below.trans HK5K6.out (Below.mono hW (Below.size HK5K6.out))) (blk_lt HR2.out))
      have HB9 := Lib.hid (fun W (hW : Keeps we W) => Below.trans HB2.out (Below.mono (Below.trans HK5K6.out (Below.mono hW (Below.size HK5K6.out))) (Below.size HB2.out)))
      have HRD9 := Lib.hid (fun W (hW : Keeps we W) => (HRD56.out.below hW).more (Below.size hW))
      have HLT := Lib.hid (blk_lt HR2.out)
      clear hcf hzs h64 hzl hnc HX5 HX6 HG HNN HZZ HZL HZ1 HZ57 HK5 HWW HR2 HB2 HGL HRD56 HK5K6
      have a0 := blk_cell HL56.out 0
      have a1 := blk_cell HL56.out 1
      have a2 := blk_cell HL56.out 2
      have a3 := blk_cell HL56.out 3
      have a4 := blk_cell HL56.out 4
      have a5 := blk_cell HL56.out 5
      have a6 := blk_cell HL56.out 6
      have a7 := blk_cell HL56.out 7
      have a8 := blk_cell HL56.out 8
      have a9 := blk_cell HL56.out 9
      have a10 := blk_cell HL56.out 10
      have a11 := blk_cell HL56.out 11
      generalize hR : cfB zs ⟨n3, x5, x6, n9, n11, n13, n15, n17, n19, n21, n23⟩ = R at HTX HNC
      obtain ⟨t, ht⟩ : ∃ t : ByteArray, ⟨(cfTextS zs ⟨n3, x5, x6, n9, n11, n13, n15, n17, n19, n21, n23⟩).toArray⟩ = t := ⟨_, rfl⟩
      have htd : t.data.toList = cfTextS zs ⟨n3, x5, x6, n9, n11, n13, n15, n17, n19, n21, n23⟩ := by rw [← ht]
      rw [ht] at HTX
      have HTD := Lib.hid htd
      have HRR := Lib.hid hR
      clear ht htd hR
      unfold cfCells at HTX
      dsimp only at HTX
      go_wp2_with fail
      (with_reducible refine HTX.out.mono ?_)
      rintro e w9 ⟨rfl, hb⟩
      have HBE := Lib.hid (HB9.out _ hb)
      have HTR := Lib.hid (there_len' (n := 12) (HR9.out _ hb) rfl)
      have HL9 := Lib.hid (blk_below HL56.out hb (blk_lt HL56.out))
      have HRE := Lib.hid (HRD9.out _ hb)
      clear hb HB9 HR9 HRD9 HL56 HTX a0 a1 a2 a3 a4 a5 a6 a7 a8 a9 a10 a11
      have hinf := info24
      cases R
      · have HN := Lib.hid (HNC.out (fun h => absurd h.1 (by decide)))
        go_wp2_with (refine wpList_store_mid rfl _ _ _ rfl w.heap.size 0 cfNil rfl rfl HTR.out hinf nil_one ?_)
        exact refParse_ret (cells := cfNil.toList) rfl rfl rfl rfl HTR.out ⟨.inr ⟨HN.out, rfl⟩, below_setCells (Nat.le_refl _) _ 0 _ _ HBE.out⟩
      have hte : cfTextS zs ⟨n3, x5, x6, n9, n11, n13, n15, n17, n19, n21, n23⟩ = cfText zs ⟨n3, x5, x6, n9, n11, n13, n15, n17, n19, n21, n23⟩ := by unfold cfTextS; rw [if_pos HRR.out]
      by_cases hts : t.data.toList = s.data.toList
      · have hq : (t.toList == s.toList) = true := str_eqB hts
        have HE := Lib.hid (show s.data.toList = cfText zs ⟨n3, x5, x6, n9, n11, n13, n15, n17, n19, n21, n23⟩ by rw [← hts, HTD.out, hte])
        have hon : (cfCells zA zs.length zc ⟨n3, x5, x6, n9, n11, n13, n15, n17, n19, n21, n23⟩).all (·.oneCell') = true := by simp [cfCells, Value.oneCell']
        have HON := Lib.hid hon
        obtain rfl : t = s := by
          obtain ⟨⟨l⟩⟩ := t
          obtain ⟨⟨m⟩⟩ := s
          simp at hts
          rw [hts]
        clear hte hts hon HTD hq
        have a0 := blk_cell HL9.out 0
        have a1 := blk_cell HL9.out 1
        have a2 := blk_cell HL9.out 2
        have a3 := blk_cell HL9.out 3
        have a4 := blk_cell HL9.out 4
        have a5 := blk_cell HL9.out 5
        have a6 := blk_cell HL9.out 6
        have a7 := blk_cell HL9.out 7
        have a8 := blk_cell HL9.out 8
        have a9 := blk_cell HL9.out 9
        have a10 := blk_cell HL9.out 10
        have a11 := blk_cell HL9.out 11
        go_wp2_with (refine wpList_store_mid rfl _ _ _ rfl w.heap.size 0 (cfCells zA zs.length zc ⟨n3, x5, x6, n9, n11, n13, n15, n17, n19, n21, n23⟩) rfl rfl HTR.out hinf HON.out ?_)
        exact refParse_ret (cells := (cfCells zA zs.length zc ⟨n3, x5, x6, n9, n11, n13, n15, n17, n19, n21, n23⟩).toList) rfl rfl rfl rfl HTR.out ⟨.inl ⟨zA, zc, zs, ⟨n3, x5, x6, n9, n11, n13, n15, n17, n19, n21, n23⟩, cfB_iff.1 HRR.out, H64.out, HE.out, rfl, by
          rw [size_setCells]
          exact rd_far HRE.out (fun a ea e => by have h1 := (HNE.out a ea).1; have h2 := HLT.out; omega) (heap_setCells _ _ 0 _)⟩, below_setCells (Nat.le_refl _) _ 0 _ _ HBE.out⟩
      · have hq : (t.toList == s.toList) = false := str_neB hts
        have HN := Lib.hid (HNC.out (fun h => hts (by rw [h.2, HTD.out, hte])))
        clear hte hts
        go_wp2_with (refine wpList_store_mid rfl _ _ _ rfl w.heap.size 0 cfNil rfl rfl HTR.out hinf nil_one ?_)
        exact refParse_ret (cells := cfNil.toList) rfl rfl rfl rfl HTR.out ⟨.inr ⟨HN.out, rfl⟩, below_setCells (Nat.le_refl _) _ 0 _ _ HBE.out⟩
    go_region_held3 (fun w' => w'.cell? ⟨g, 1, none⟩ = some (.string y1) ∧ w'.cell? ⟨g, 3, none⟩ = some (.string y3) ∧ w'.cell? ⟨g, 9, none⟩ = some (.string y9) ∧ w'.cell? ⟨g, 11, none⟩ = some (.string y11) ∧ w'.cell? ⟨g, 13, none⟩ = some (.string y13) ∧ w'.cell? ⟨g, 15, none⟩ = some (.string y15) ∧ w'.cell? ⟨g, 17, none⟩ = some (.string y17) ∧ w'.cell? ⟨g, 19, none⟩ = some (.string y19) ∧ w'.cell? ⟨g, 21, none⟩ = some (.string y21) ∧ w'.cell? ⟨g, 23, none⟩ = some (.string y23))
      (first
        | with_reducible exact HSK.out _ (Keeps.self w1)
        | with_reducible exact HSK.out _ (Keeps.mk w1 _)
        | with_reducible exact HSK.out _ HB3.out
        | with_reducible exact HSK.out _ (Keeps.more HB3.out _)
        | with_reducible exact HSK.out _ (Keeps.set0 HB3.out _)
        | with_reducible exact HSK.out _ (Keeps.setA HB3.out _ _))
      (first
        | (go_at_call 22
           (with_reducible refine (HNU.out _).mono ?_)
           rintro e w3 ⟨v3, rfl, ho3, hb3⟩
           have HB3 := Lib.hid (show Keeps w1 w3 from Below.trans (Keeps.mk w1 _) (Below.mono hb3 (Below.size (Keeps.mk w1 _))))
           obtain ⟨zA, zc, rfl⟩ := own_slice ho3
           have HBK := Lib.hid (show w3.heap[w1.heap.size]? = some (.cells #[.slice none 0 0, .int .i64 0, .int .i64 0, .int .i64 0, .int .i64 0, .int .i64 0, .int .i64 0, .int .i64 0, .int .i64 0, .int .i64 0, .int .i64 0, .int .i64 0] 24 (0, 0)) from blk_below (blk_drew (heap_alloc_new w1 _)) hb3 (blk_lt (blk_drew (heap_alloc_new w1 _))))
           have HRW := Lib.hid (show RdI w3 w3.heap.size zA zs from rd_of_own ho3)
           have HNE := Lib.hid (show ∀ a, zA = some a → w1.heap.size ≤ a.block ∧ a.block ≠ w1.heap.size from fun a ea => by have h := (own_apart ho3 a ea).1; simp at h; omega)
           have hok : StoreOk Tryz.prog 24 (w3) (w1.heap.size) [.slice zA zs.length zc, .int .i64 n3, (.int .i64 0), (.int .i64 0), .int .i64 n9, .int .i64 n11, .int .i64 n13, .int .i64 n15, .int .i64 n17, .int .i64 n19, .int .i64 n21, .int .i64 n23] := ⟨info24, there_len' HBK.out rfl, by simp [Value.oneCell']⟩
           clear HNU ho3 hb3)
        | (go_at_call 22
           (with_reducible refine (HNU.out _).mono ?_)
           rintro e w3 ⟨v3, rfl, ho3, hb3⟩
           have HB3 := Lib.hid (show Keeps w1 w3 from Below.trans (Keeps.self w1) hb3)
           obtain ⟨zA, zc, rfl⟩ := own_slice ho3
           have HBK := Lib.hid (show (w3.alloc (.cells #[.slice none 0 0, .int .i64 0, .int .i64 0, .int .i64 0, .int .i64 0, .int .i64 0, .int .i64 0, .int .i64 0, .int .i64 0, .int .i64 0, .int .i64 0, .int .i64 0] 24)).heap[w3.heap.size]? = some (.cells #[.slice none 0 0, .int .i64 0, .int .i64 0, .int .i64 0, .int .i64 0, .int .i64 0, .int .i64 0, .int .i64 0, .int .i64 0, .int .i64 0, .int .i64 0, .int .i64 0] 24 (0, 0)) from heap_alloc_new w3 _)
           have HRW := Lib.hid (show RdI w3 w3.heap.size zA zs from rd_of_own ho3)
           have HNE := Lib.hid (show ∀ a, zA = some a → w1.heap.size ≤ a.block ∧ a.block < w3.heap.size from own_apart ho3)
           have hok : StoreOk Tryz.prog 24 (w3.alloc (.cells #[.slice none 0 0, .int .i64 0, .int .i64 0, .int .i64 0, .int .i64 0, .int .i64 0, .int .i64 0, .int .i64 0, .int .i64 0, .int .i64 0, .int .i64 0, .int .i64 0] 24)) (w3.heap.size) [.slice zA zs.length zc, .int .i64 n3, (.int .i64 0), (.int .i64 0), .int .i64 n9, .int .i64 n11, .int .i64 n13, .int .i64 n15, .int .i64 n17, .int .i64 n19, .int .i64 n21, .int .i64 n23] := ⟨info24, there_len' HBK.out rfl, by simp [Value.oneCell']⟩
           clear HNU ho3 hb3)
        | (go_at_call 23
           (with_reducible refine (HN3.out _).mono ?_)
           rintro e wu ⟨rfl, rfl⟩
           clear HN3)
        | (go_at_call 23
           (with_reducible refine (HN9.out _).mono ?_)
           rintro e wu ⟨rfl, rfl⟩
           clear HN9)
        | (go_at_call 23
           (with_reducible refine (HN11.out _).mono ?_)
           rintro e wu ⟨rfl, rfl⟩
           clear HN11)
        | (go_at_call 23
           (with_reducible refine (HN13.out _).mono ?_)
           rintro e wu ⟨rfl, rfl⟩
           clear HN13)
        | (go_at_call 23
           (with_reducible refine (HN15.out _).mono ?_)
           rintro e wu ⟨rfl, rfl⟩
           clear HN15)
        | (go_at_call 23
           (with_reducible refine (HN17.out _).mono ?_)
           rintro e wu ⟨rfl, rfl⟩
           clear HN17)
        | (go_at_call 23
           (with_reducible refine (HN19.out _).mono ?_)
           rintro e wu ⟨rfl, rfl⟩
           clear HN19)
        | (go_at_call 23
           (with_reducible refine (HN21.out _).mono ?_)
           rintro e wu ⟨rfl, rfl⟩
           clear HN21)
        | (go_at_call 23
           (with_reducible refine (HN23.out _).mono ?_)
           rintro e wu ⟨rfl, rfl⟩
           clear HN23))
    all_goals
      go_wp2_with fail
      go_meet
      first
        | with_reducible exact rp_end HB3.out (Nat.le_refl _) HBK.out HRW.out HNE.out
        | with_reducible exact rp_endC HB3.out HRW.out HNE.out
        | with_reducible exact rp_endB HB3.out HRW.out HNE.out
        | (trace_state; fail)
  · have h24' : ((ws.length : Int) != 24) = true := by simp; omega
    have HN := Lib.hid (noCf_text (noCf_len (fun e => h24 (HLW.out ▸ e))))
    have HTR := Lib.hid (there_len' (n := 12) HR2.out rfl)
    clear h24
    go_wp2_with (refine wpList_store_mid rfl _ _ _ rfl w.heap.size 0 cfNil rfl rfl HTR.out hinf nil_one ?_)
    exact refParse_ret (cells := cfNil.toList) rfl rfl rfl rfl HTR.out ⟨.inr ⟨HN.out, rfl⟩, below_setCells (Nat.le_refl _) _ 0 _ _ HB2.out⟩

end Go.Proofs.YtiokdfkddcokoaaGreatDoor
