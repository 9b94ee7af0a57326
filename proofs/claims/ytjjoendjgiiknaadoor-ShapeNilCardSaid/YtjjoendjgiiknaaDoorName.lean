/- Walks: joined and Name of a shape. Conditions: the table of powers of ten reads as listed. -/
import Derived.Test.YtjjoendjgiiknaaDoorPlace
import Derived.Test.YtjjoendjgiiknaaDoorItoa
import Derived.Test.YtjjoendjgiiknaaDoorJoined
import Derived.Test.YtjjoendjgiiknaaDoorOwn
namespace Go.Proofs.YtjjoendjgiiknaaDoor
open Go.RowKit

def numL (p : Pl) : List Int := if p.c < 0 then [p.k, p.r] else [p.k, p.r, p.c]
def headC (p : Pl) : UInt8 := if p.c < 0 then 98 else 119
def ptsL (l : List Int) : List UInt8 := Lib.join (l.map Lib.itoa) [46]
def nameL (p : Pl) : List UInt8 := headC p :: ptsL (numL p)

def itoaB (l : List Int) : List ByteArray := l.map fun x => ⟨(Lib.itoa x).toArray⟩
theorem itoaB_data (l : List Int) : (itoaB l).map (·.data.toList) = l.map Lib.itoa := by simp [itoaB]

theorem pts_len : ∀ (l : List Int), (∀ z ∈ l, In64 z) → (ptsL l).length ≤ 22 * l.length
  | [], _ => by simp [ptsL, Lib.join_nil]
  | [x], h => by
    have := itoa_len (h x (by simp))
    simp [ptsL, Lib.join_one]
    omega
  | x :: y :: r, h => by
    have ih := pts_len (y :: r) fun z hz => h z (by simp [hz])
    have hx := itoa_len (h x (by simp))
    have e : ptsL (x :: y :: r) = Lib.itoa x ++ 46 :: ptsL (y :: r) := by
      unfold ptsL
      rw [List.map_cons, List.map_cons, Lib.join_cons, Lib.join_cons]
      simp [Lib.joinTail]
    rw [e]
    simp only [List.length_append, List.length_cons] at ih ⊢
    omega

set_option maxRecDepth 100000 in
set_option maxHeartbeats 1000000 in
theorem joined_any (A : Option Addr) (cap : Nat) (zs : List Int) (hz : ∀ x ∈ zs, In64 x) (hl : zs.length ≤ 100) (B : Nat) (w : World) (hp : Pow B w) (hB : B ≤ w.heap.size) (hr : RdI w w.heap.size A zs) :
    Calls Tryd.prog 33 #[.slice A zs.length cap] w fun e w' => e = .returned (.string ⟨(ptsL zs).toArray⟩) ∧ Below w.heap.size w w' := by
  obtain ⟨i0, hi, hz0, hz1, hz2⟩ := info_parts infoStr
  have HI := Lib.hid (And.intro hi (And.intro hz0 (And.intro hz1 hz2)))
  have HR := Lib.hid hr
  have HT := Lib.hid (fun (x : Int) (hx : In64 x) W (hW : Below w.heap.size w W) => itoa_any x hx B W (hp.on (hW.mono hB)))
  have HZ := Lib.hid hz
  have HL := Lib.hid hl
  have hxl : (itoaB zs).length = zs.length := by simp [itoaB]
  have hj : Lib.join ((itoaB zs).map (·.data.toList)) (⟨#[46]⟩ : ByteArray).data.toList = ptsL zs := by rw [itoaB_data]; rfl
  have hpl := pts_len zs hz
  have HJ := Lib.hid (fun v base W (h : W.ownsRow base 9 1 v (itoaB zs).length ((itoaB zs).map Value.string)) => join_own v (itoaB zs) ⟨#[46]⟩ base W h (by omega) (by rw [hj]; omega))
  rw [hj, hxl] at HJ
  have HXL := Lib.hid hxl
  clear hi hz0 hz1 hz2 hp hB hr hz hl hxl hj hpl
  go_enter Tryd.func33, Tryd.ntmps33
  go_wp2_with fail
  go_loopw [3, 8] (fun v i wr => ∃ k : Nat, k ≤ zs.length ∧ i = .int .i64 k ∧ Hid (wr.ownsRow w.heap.size 9 1 v k (((itoaB zs).map Value.string).take k)) ∧ Hid (Below w.heap.size w wr)) (fun _ i _ => zs.length - (intOf i).toNat)
  case atStart => exact ⟨0, Nat.zero_le _, rfl, Lib.hid (own_nil w w.heap.size 9 1), Lib.hid (Below.refl _ _)⟩
  case round =>
    obtain ⟨k, hk, rfl, HOk, HBk⟩ := hrel
    have hzl : (zs.length : Int) ≤ 100 := by have h := HL.out; omega
    by_cases hlt : k < zs.length
    · obtain ⟨b, off, rfl, hb, hcz⟩ := HR.out.at_ (by omega)
      obtain ⟨x, hx⟩ := get_some zs k hlt
      have c1 : wr.cell? ⟨b, off + k, none⟩ = some (.int .i64 x) := (HBk.out.cell (p := ⟨b, off + k, none⟩) hb).trans (hcz k x hx)
      have HNX := Lib.hid (show ((itoaB zs).map Value.string).take (k + 1) = ((itoaB zs).map Value.string).take k ++ [.string ⟨(Lib.itoa x).toArray⟩] by
        rw [List.take_add_one]
        congr 1
        simp [itoaB, hx])
      have HTx := Lib.hid (HT.out x (HZ.out x (List.mem_of_getElem? hx)) _ HBk.out)
      obtain ⟨s, hs⟩ : ∃ s : ByteArray, ⟨(Lib.itoa x).toArray⟩ = s := ⟨_, rfl⟩
      rw [hs] at HTx HNX
      clear hcz hx hs
      go_wp2_with fail
      (with_reducible refine HTx.out.mono ?_)
      rintro e w1 ⟨rfl, hb1⟩
      have HB1 := Lib.hid (HBk.out.trans (hb1.mono HBk.out.size))
      have HO1 := Lib.hid (own_below HOk.out hb1)
      clear hb1 HBk HOk c1
      go_wp2_with (at_builtin; refine wpList_append_own _ rfl _ _ 61 rfl w.heap.size 9 i0 (.string ByteArray.empty) 1 16 Tryd.underlying61 HI.out.1 HI.out.2.1 HI.out.2.2.1 HI.out.2.2.2 rfl (by decide) _ _ _ rfl (HO1.out.alloc _) ⟨w1.heap.size, 0, none⟩ 1 1 [.string s] rfl rfl ?c1 ?c2 ?c3 ?c4 ?c5 ?_)
      case c1 =>
        intro j u hj
        match j, hj with
        | 0, hj => simp at hj; subst hj; simp [Addr.add]
      case c2 => intro u hu; simp at hu; subst hu; rfl
      case c3 => have h := HL.out; unfold maxLen; omega
      case c4 => have h := HL.out; omega
      case c5 => have := HB1.out.size; simp; omega
      intro v' w2 hown' hgrow _
      have HB2 := Lib.hid (below_own (HB1.out.alloc HB1.out.size _) (Nat.le_refl _) (Nat.le_refl _) (HO1.out.alloc _) hgrow)
      have HO2 := Lib.hid hown'
      clear hown' hgrow HB1 HO1
      go_wp2_with fail
      go_roundw
      case rel => exact ⟨k + 1, by omega, by go_num, Lib.hid (by rw [HNX.out]; exact HO2.out), HB2⟩
      case measure => simp [intOf]; omega
    · have hke : k = zs.length := by omega
      subst hke
      have hO := HOk.out
      rw [List.take_of_length_le (by rw [List.length_map, HXL.out]; exact Nat.le_refl _)] at hO
      have HJx := Lib.hid (HJ.out u3 _ _ hO)
      clear hO HOk
      go_wp2_with fail
      (with_reducible refine HJx.out.mono ?_)
      rintro e w2 ⟨rfl, hb2⟩
      have HB2 := Lib.hid (HBk.out.trans (hb2.mono HBk.out.size))
      clear hb2
      go_wp2_with fail
      go_ret
      exact ⟨rfl, HB2.out⟩

theorem pl_in {p : Pl} (h : 0 ≤ p.k ∧ p.k ≤ 1048576 ∧ 0 ≤ p.r ∧ p.r ≤ 1048576 ∧ -1 ≤ p.c ∧ p.c ≤ 1048576) : ∀ x ∈ numL p, In64 x := by
  intro x hx
  unfold numL at hx
  unfold In64
  split at hx
  · simp at hx; omega
  · simp at hx; omega

theorem rd_new {w : World} {g : Nat} {zs : List Int} (h : w.heap[g]? = some (.cells (zs.map (Value.int .i64)).toArray 3 (0, 0))) (hB : g < w.heap.size) : RdI w w.heap.size (some ⟨g, 0, none⟩) zs := fun _ => ⟨g, 0, rfl, hB, fun j u hu => by
  rw [Nat.zero_add, blk_cell h]
  simpa using hu⟩

set_option maxRecDepth 100000 in
set_option maxHeartbeats 1000000 in
theorem name_yes (g : Nat) (zs : List Int) (hs : ShOk zs) (i : Int) (p : Pl) (hpl : PlaceIs zs i p) (B : Nat) (w : World) (hp : Pow B w) (hB : B ≤ w.heap.size) (h : IsShape w w.heap.size g zs) :
    Calls Tryd.prog 24 #[.pointer (some ⟨g, 0, none⟩), .int .i64 i] w fun e w' => e = .returned (.string ⟨(nameL p).toArray⟩) ∧ Below w.heap.size w w' := by
  have HPL := Lib.hid (place_yes g zs hs i p hpl w h)
  obtain ⟨_, hb0, hb1, hb2, hb3, hb4, hb5⟩ := idx_place hs hpl
  have h16 := hs.2.1
  have hin := pl_in (p := p) ⟨hb0, by omega, hb2, hb3, hb4, hb5⟩
  have hlen := pts_len _ hin
  have HJ := Lib.hid (fun (zs : List Int) (e : numL p = zs) W (hW : Below w.heap.size w W) (hW2 : w.heap.size ≤ W.heap.size) => joined_any (some ⟨W.heap.size, 0, none⟩) zs.length zs (by rw [← e]; exact hin) (by rw [← e]; unfold numL; split <;> simp) B (W.alloc (.cells (zs.map (Value.int .i64)).toArray 3)) (hp.on ((hW.mono hB).alloc (by omega) _)) (by simp; omega) (rd_new (heap_alloc_new W _) (by simp)))
  have hn3 : (numL p).length ≤ 3 := by unfold numL; split <;> simp
  have hsz : (⟨(ptsL (numL p)).toArray⟩ : ByteArray).size ≤ 100 := by simp [ByteArray.size]; omega
  have HN := Lib.hid (show (⟨#[headC p]⟩ : ByteArray) ++ ⟨(ptsL (numL p)).toArray⟩ = ⟨(nameL p).toArray⟩ by
    rw [show (⟨#[headC p]⟩ : ByteArray) = ⟨([headC p] : List UInt8).toArray⟩ from rfl, ByteArray.mk_append_mk]; rfl)
  obtain ⟨k, r, c⟩ := p
  dsimp only at HPL hb4 hb5
  by_cases hc : c < 0
  · have hnum : numL ⟨k, r, c⟩ = [k, r] := by simp [numL, hc]
    have hhd : headC ⟨k, r, c⟩ = 98 := by simp [headC, hc]
    have HJ2 := Lib.hid (HJ.out [k, r] hnum)
    simp only [List.map_cons, List.map_nil, List.length_cons, List.length_nil, Nat.zero_add] at HJ2
    rw [hnum] at hsz HN
    rw [hhd] at HN
    obtain ⟨s, hss⟩ : ∃ s : ByteArray, ⟨(ptsL [k, r]).toArray⟩ = s := ⟨_, rfl⟩
    rw [hss] at HJ2 hsz HN
    clear HJ hnum hhd hss hpl hs h hin hlen hn3 h16 hb0 hb1 hb2 hb3
    go_enter Tryd.func24, Tryd.ntmps24
    go_wp2_with fail
    (with_reducible refine HPL.out.mono ?_)
    rintro e w1 ⟨rfl, hbw⟩
    have HB1 := Lib.hid hbw
    clear hbw
    go_wp2_with fail
    (with_reducible refine (HJ2.out w1 HB1.out HB1.out.size).mono ?_)
    rintro e w2 ⟨rfl, hbw⟩
    have HB2 := Lib.hid ((HB1.out.alloc HB1.out.size _).trans (hbw.mono (by have := HB1.out.size; simp; omega)))
    clear hbw
    go_wp2_with fail
    go_ret
    exact ⟨by rw [← HN.out]; rfl, HB2.out⟩
  · have hnum : numL ⟨k, r, c⟩ = [k, r, c] := by simp [numL, hc]
    have hhd : headC ⟨k, r, c⟩ = 119 := by simp [headC, hc]
    have HJ2 := Lib.hid (HJ.out [k, r, c] hnum)
    simp only [List.map_cons, List.map_nil, List.length_cons, List.length_nil, Nat.zero_add] at HJ2
    rw [hnum] at hsz HN
    rw [hhd] at HN
    obtain ⟨s, hss⟩ : ∃ s : ByteArray, ⟨(ptsL [k, r, c]).toArray⟩ = s := ⟨_, rfl⟩
    rw [hss] at HJ2 hsz HN
    clear HJ hnum hhd hss hpl hs h hin hlen hn3 h16 hb0 hb1 hb2 hb3
    go_enter Tryd.func24, Tryd.ntmps24
    go_wp2_with fail
    (with_reducible refine HPL.out.mono ?_)
    rintro e w1 ⟨rfl, hbw⟩
    have HB1 := Lib.hid hbw
    clear hbw
    go_wp2_with fail
    (with_reducible refine (HJ2.out w1 HB1.out HB1.out.size).mono ?_)
    rintro e w2 ⟨rfl, hbw⟩
    have HB2 := Lib.hid ((HB1.out.alloc HB1.out.size _).trans (hbw.mono (by have := HB1.out.size; simp; omega)))
    clear hbw
    go_wp2_with fail
    go_ret
    exact ⟨by rw [← HN.out]; rfl, HB2.out⟩

theorem name_no (g : Nat) (zs : List Int) (hs : ShOk zs) (i : Int) (hi : ¬ (0 ≤ i ∧ i < cnt zs)) (w : World) (h : IsShape w w.heap.size g zs) :
    Calls Tryd.prog 24 #[.pointer (some ⟨g, 0, none⟩), .int .i64 i] w fun e w' => e = .returned (.string ⟨#[]⟩) ∧ Below w.heap.size w w' := by
  have HPL := Lib.hid (place_no g zs hs i hi w h)
  clear hs hi h
  go_enter Tryd.func24, Tryd.ntmps24
  go_wp2_with fail
  (with_reducible refine HPL.out.mono ?_)
  rintro e w1 ⟨rfl, hb⟩
  go_wp2_with fail
  go_ret
  exact ⟨rfl, hb⟩

theorem name_nil (i : Int) (w : World) : Calls Tryd.prog 24 #[.pointer none, .int .i64 i] w fun e w' => e = .returned (.string ⟨#[]⟩) ∧ w = w' := by
  have HPL := Lib.hid (place_nil i w)
  go_enter Tryd.func24, Tryd.ntmps24
  go_wp2_with fail
  (with_reducible refine HPL.out.mono ?_)
  rintro e w1 ⟨rfl, rfl⟩
  go_wp2_with fail
  go_ret
  exact ⟨rfl, rfl⟩

end Go.Proofs.YtjjoendjgiiknaaDoor
