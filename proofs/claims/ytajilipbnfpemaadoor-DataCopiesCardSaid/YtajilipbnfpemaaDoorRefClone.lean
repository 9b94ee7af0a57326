/- Walks: the reference's Clone of examples. Conditions: none. -/
import Derived.Test.YtajilipbnfpemaaDoorPick
namespace Go.Proofs.YtajilipbnfpemaaDoor
open Go.RowKit

set_option maxRecDepth 100000 in
set_option maxHeartbeats 2000000 in
theorem refClone_any (A : Option Addr) (cap : Nat) (l : List Ex) (w : World) (hr : RdE w w.heap.size A l) (hm : l.length ≤ 100000) (hl : ∀ ex ∈ l, ex.xs.length ≤ 1099511627776 ∧ ex.ys.length ≤ 1099511627776) :
    Calls Tryd.prog 25 #[.slice A l.length cap] w fun e w' => ∃ v L, e = .returned v ∧ Copies w.heap.size w' v l L ∧ Below w.heap.size w w' := by
  obtain ⟨i0, hi, hz0, hz1, hz2⟩ := info_parts infoEx
  have HI := Lib.hid (And.intro hi (And.intro hz0 (And.intro hz1 hz2)))
  have HX := Lib.hid (fun (ex : Ex) (hex : ex ∈ l) W (hW : Below w.heap.size w W) => clone_any ex.ax ex.cx ex.xs W (((hr.2 ex hex).1.below hW).more hW.size) (hl ex hex).1)
  have HY := Lib.hid (fun (ex : Ex) (hex : ex ∈ l) W (hW : Below w.heap.size w W) => clone_any ex.ay ex.cy ex.ys W (((hr.2 ex hex).2.1.below hW).more hW.size) (hl ex hex).2)
  have HR := Lib.hid hr
  have HL := Lib.hid hm
  clear hi hz0 hz1 hz2 hr hl hm
  go_enter Tryd.func25, Tryd.ntmps25
  go_wp2_with fail
  go_loopw [3, 4] (fun v i wr => ∃ k : Nat, k ≤ l.length ∧ i = .int .i64 k ∧ Hid (CopiesK w.heap.size wr v l k) ∧ Hid (Below w.heap.size w wr)) (fun _ i _ => l.length - (intOf i).toNat)
  case atStart => exact ⟨0, Nat.zero_le _, rfl, Lib.hid ⟨[], by simpa using Copies.nil_ w.heap.size w⟩, Lib.hid (Below.refl _ _)⟩
  case round =>
    obtain ⟨k, hk, rfl, HOk, HBk⟩ := hrel
    have hzl : (l.length : Int) ≤ 100000 := by have h := HL.out; omega
    by_cases hlt : k < l.length
    · obtain ⟨b, off, rfl, hb, hcs⟩ := HR.out.at_ (by omega)
      obtain ⟨ex, hex⟩ := get_some l k hlt
      have HXk := Lib.hid (HX.out ex (List.mem_of_getElem? hex))
      have HYk := Lib.hid (HY.out ex (List.mem_of_getElem? hex))
      have c1 : wr.cell? ⟨b, off + k * 2, none⟩ = some (.slice ex.ax ex.xs.length ex.cx) := (HBk.out.cell (p := ⟨b, off + k * 2, none⟩) hb).trans (hcs k ex hex).1
      have c2 : wr.cell? ⟨b, off + k * 2 + 1, none⟩ = some (.slice ex.ay ex.ys.length ex.cy) := (HBk.out.cell (p := ⟨b, off + k * 2 + 1, none⟩) hb).trans (hcs k ex hex).2
      have HC := Lib.hid (And.intro c1 c2)
      have HCB := Lib.hid (fun W (hW : Below w.heap.size w W) => And.intro ((hW.cell (p := ⟨b, off + k * 2, none⟩) hb).trans (hcs k ex hex).1) ((hW.cell (p := ⟨b, off + k * 2 + 1, none⟩) hb).trans (hcs k ex hex).2))
      have HEX := Lib.hid hex
      obtain ⟨L, hL⟩ := HOk.out
      have HLk := Lib.hid (show L.length = k by rw [hL.1, List.length_take]; omega)
      have HLL := Lib.hid hL
      have h0 : (0 : Int) ≤ (k : Int) := by omega
      have h1 : (k : Int) < (l.length : Int) := by omega
      clear hcs hex hL HOk c1 c2 HX HY
      go_wp2_with fail
      go_region_held3 (fun w' => w'.cell? ⟨b, off + k * 2, none⟩ = some (.slice ex.ax ex.xs.length ex.cx) ∧ w'.cell? ⟨b, off + k * 2 + 1, none⟩ = some (.slice ex.ay ex.ys.length ex.cy))
        (first
          | exact HCB.out _ HB3.out
          | exact HCB.out _ HB2a.out
          | exact HCB.out _ HB2.out
          | exact HCB.out _ HB1.out
          | exact HC.out)
        (first
          | (go_at_call 52
             (with_reducible refine (HXk.out _ (below_drew HBk.out)).mono ?_)
             rintro e w1 ⟨vx, rfl, hox, hb1⟩
             obtain ⟨A1, c1, rfl⟩ := own_slice hox
             have HO1 := Lib.hid (own_more hox HBk.out.size)
             have HB1 := Lib.hid ((below_drew HBk.out).trans (hb1.mono HBk.out.size))
             have HL1 := Lib.hid (HLL.out.drew.below hb1)
             clear hb1 hox HBk HXk HLL)
          | (go_at_call 52
             (with_reducible refine (HYk.out _ HB1.out).mono ?_)
             rintro e w2 ⟨vy, rfl, hoy, hb2⟩
             obtain ⟨A2, c2, rfl⟩ := own_slice hoy
             have HOX := Lib.hid (own_below HO1.out hb2)
             have HOY := Lib.hid (own_more hoy HB1.out.size)
             have HB2 := Lib.hid (HB1.out.trans (hb2.mono HB1.out.size))
             have HL2 := Lib.hid (HL1.out.below hb2)
             have HW := Lib.hid (HL2.out.alloc (.cells #[.slice A1 ex.xs.length c1, .slice A2 ex.ys.length c2] 46))
             have HV := Lib.hid (CopyOf.alloc (show CopyOf w.heap.size w2 ex ⟨A1, ex.xs, c1, A2, ex.ys, c2⟩ from ⟨rfl, rfl, HOX.out, HOY.out⟩) (.cells #[.slice A1 ex.xs.length c1, .slice A2 ex.ys.length c2] 46))
             have HN := Lib.hid (heap_alloc_new w2 (.cells #[.slice A1 ex.xs.length c1, .slice A2 ex.ys.length c2] 46))
             have HB2a := Lib.hid (HB2.out.alloc HB2.out.size (.cells #[.slice A1 ex.xs.length c1, .slice A2 ex.ys.length c2] 46))
             clear hb2 hoy HO1 HB1 HL1 HYk HL2 HOX HOY)
          | (refine wp_append_own _ _ _ 34 rfl w.heap.size 46 i0 (.agg #[.slice none 0 0, .slice none 0 0]) 2 48 Tryd.underlying34 HI.out.1 HI.out.2.1 HI.out.2.2.1 HI.out.2.2.2 rfl (by decide) _ _ _ rfl HW.out.2.1 ⟨w2.heap.size, 0, none⟩ 1 1 [.slice A1 ex.xs.length c1, .slice A2 ex.ys.length c2] rfl rfl (by intro j u hj; rw [add_none, Nat.zero_add, blk_cell HN.out]; simpa using hj) (by intro u hu; simp at hu; rcases hu with rfl | rfl <;> rfl) (by have h := HLk.out; have h' := HL.out; unfold maxLen; omega) (by have h := HLk.out; have h' := HL.out; omega) HB2a.out.size ?_
             intro v' w3 hown' hgrow _
             have HB3 := Lib.hid (below_own HB2a.out (Nat.le_refl _) (Nat.le_refl _) HW.out.2.1 hgrow)
             have HS := Lib.hid (HW.out.step HEX.out HV.out hown' hgrow)
             clear hown' hgrow HW HV HN HB2 HB2a))
      go_wp2_with fail
      go_roundw
      case rel => exact ⟨k + 1, by omega, by go_num, Lib.hid ⟨_, HS.out⟩, HB3⟩
      case measure => simp [intOf]; omega
    · have hke : k = l.length := by omega
      subst hke
      obtain ⟨L, hL⟩ := HOk.out
      have hO : Copies w.heap.size wr u3 l L := by rw [List.take_length] at hL; exact hL
      have HO := Lib.hid hO
      clear hO hL
      go_wp2_with fail
      go_ret
      exact ⟨_, L, rfl, HO.out, HBk.out⟩

/-- What the reference's Pick leaves: the examples that were asked for, or none. -/
def PickedR (idx : List Int) (p : List Ex) (w : World) (e : Ending) (w' : World) : Prop :=
  (p.length = idx.length → ∃ v, e = .returned (.tuple #[v, .bool true]) ∧ w'.ownsRow w.heap.size 46 2 v p.length (exCells p)) ∧ (p.length < idx.length → e = .returned (.tuple #[.slice none 0 0, .bool false])) ∧ Below w.heap.size w w'

theorem exCells_take {p : List Ex} {k : Nat} {e : Ex} (h : p[k]? = some e) : exCells (p.take (k + 1)) = exCells (p.take k) ++ e.cells := by
  rw [List.take_add_one, h]
  exact exCells_snoc _ _

set_option maxRecDepth 100000 in
set_option maxHeartbeats 2000000 in
theorem refPick_any (Ai : Option Addr) (capi : Nat) (idx : List Int) (A : Option Addr) (cap : Nat) (l p : List Ex) (w : World) (hidx : RdI w w.heap.size Ai idx) (hil : idx.length ≤ 100000) (hr : RdE w w.heap.size A l) (hm : l.length ≤ 9223372036854775807)
    (hsel : Sel l idx p) : Calls Tryd.prog 27 #[.slice A l.length cap, .slice Ai idx.length capi] w (PickedR idx p w) := by
  obtain ⟨i0, hi, hz0, hz1, hz2⟩ := info_parts infoEx
  have HI := Lib.hid (And.intro hi (And.intro hz0 (And.intro hz1 hz2)))
  have HE := Lib.hid hr
  have HR := Lib.hid hidx
  have HL := Lib.hid hil
  have HP := Lib.hid hsel
  clear hi hz0 hz1 hz2 hr hidx hil hsel
  go_enter Tryd.func27, Tryd.ntmps27
  go_wp2_with fail
  go_loopw [6, 7] (fun v i wr => ∃ k : Nat, k ≤ p.length ∧ i = .int .i64 k ∧ Hid (wr.ownsRow w.heap.size 46 2 v k (exCells (p.take k))) ∧ Hid (Below w.heap.size w wr)) (fun _ i _ => idx.length - (intOf i).toNat)
  case atStart => exact ⟨0, Nat.zero_le _, rfl, Lib.hid (own_nil w _ _ 2), Lib.hid (Below.refl _ _)⟩
  case round =>
    obtain ⟨k, hk, rfl, HOk, HBk⟩ := hrel
    have hzl : (idx.length : Int) ≤ 100000 := by have h := HL.out; omega
    have hpl : p.length ≤ idx.length := HP.out.1
    by_cases hlt : k < idx.length
    · obtain ⟨b, off, rfl, hb, hcz⟩ := HR.out.at_ (by omega)
      obtain ⟨x, hx⟩ := get_some idx k hlt
      have c1 : wr.cell? ⟨b, off + k, none⟩ = some (.int .i64 x) := (HBk.out.cell (p := ⟨b, off + k, none⟩) hb).trans (hcz k x hx)
      by_cases hlp : k < p.length
      · obtain ⟨ex, hex⟩ := get_some p k hlp
        obtain ⟨h0, hsx⟩ := HP.out.2.1 k x ex hx hex
        obtain ⟨n, rfl⟩ := Int.eq_ofNat_of_zero_le h0
        rw [Int.toNat_natCast] at hsx
        have hn : n < l.length := (List.getElem?_eq_some_iff.1 hsx).1
        obtain ⟨be, oe, rfl, hbe, hce⟩ := HE.out.at_ (by omega)
        have d1 : wr.cell? ⟨be, oe + n * 2, none⟩ = some (.slice ex.ax ex.xs.length ex.cx) := (HBk.out.cell (p := ⟨be, oe + n * 2, none⟩) hbe).trans (hce n ex hsx).1
        have d2 : wr.cell? ⟨be, oe + n * 2 + 1, none⟩ = some (.slice ex.ay ex.ys.length ex.cy) := (HBk.out.cell (p := ⟨be, oe + n * 2 + 1, none⟩) hbe).trans (hce n ex hsx).2
        have HX := Lib.hid (exCells_take hex)
        have HN := Lib.hid (heap_alloc_new wr (.cells #[.slice ex.ax ex.xs.length ex.cx, .slice ex.ay ex.ys.length ex.cy] 46))
        have HB1 := Lib.hid (HBk.out.alloc HBk.out.size (.cells #[.slice ex.ax ex.xs.length ex.cx, .slice ex.ay ex.ys.length ex.cy] 46))
        have HO1 := Lib.hid (HOk.out.alloc (.cells #[.slice ex.ax ex.xs.length ex.cx, .slice ex.ay ex.ys.length ex.cy] 46))
        have hn' : (n : Int) < (l.length : Int) := by omega
        clear hce hcz hx hex hsx HOk
        go_wp2_with (at_builtin; refine wpList_append_own _ rfl _ _ 34 rfl w.heap.size 46 i0 (.agg #[.slice none 0 0, .slice none 0 0]) 2 48 Tryd.underlying34 HI.out.1 HI.out.2.1 HI.out.2.2.1 HI.out.2.2.2 rfl (by decide) _ _ _ rfl HO1.out ⟨wr.heap.size, 0, none⟩ 1 1 [.slice ex.ax ex.xs.length ex.cx, .slice ex.ay ex.ys.length ex.cy] rfl rfl ?c1 ?c2 ?c3 ?c4 ?c5 ?_)
        case c1 =>
          intro j u hj
          rw [add_none, Nat.zero_add, blk_cell HN.out]
          simpa using hj
        case c2 => intro u hu; simp at hu; rcases hu with rfl | rfl <;> rfl
        case c3 => have h' := HL.out; unfold maxLen; omega
        case c4 => have h' := HL.out; omega
        case c5 => have := HBk.out.size; simp; omega
        intro v' w2 hown' hgrow _
        have HB2 := Lib.hid (below_own HB1.out (Nat.le_refl _) (Nat.le_refl _) HO1.out hgrow)
        have HO2 := Lib.hid hown'
        clear hown' hgrow HO1 HB1 HBk c1 d1 d2
        go_wp2_with fail
        go_roundw
        case rel => exact ⟨k + 1, by omega, by go_num, Lib.hid (by rw [HX.out]; exact HO2.out), HB2⟩
        case measure => simp [intOf]; omega
      · have hke : k = p.length := by omega
        subst hke
        have hbad := HP.out.2.2 x hx
        have HLT := Lib.hid hlt
        clear hcz hx
        rcases hbad with hbad | hbad
        · go_wp2_with fail
          go_ret2
          exact ⟨fun h => absurd h (Nat.ne_of_lt HLT.out), fun _ => rfl, HBk.out⟩
        · have hn0 : ¬ x < 0 := by omega
          obtain ⟨n, rfl⟩ := Int.eq_ofNat_of_zero_le (a := x) (by omega)
          have hge : l.length ≤ n := by omega
          go_wp2_with fail
          go_ret2
          exact ⟨fun h => absurd h (Nat.ne_of_lt HLT.out), fun _ => rfl, HBk.out⟩
    · have hke : k = p.length := by omega
      subst hke
      have HQ := Lib.hid (show p.length = idx.length by omega)
      have hO := HOk.out
      rw [List.take_length] at hO
      have HO := Lib.hid hO
      have hge : idx.length ≤ p.length := by omega
      clear hO
      go_wp2_with fail
      go_ret2
      exact ⟨fun _ => ⟨_, rfl, HO.out⟩, fun h => absurd h (by rw [HQ.out]; exact Nat.lt_irrefl _), HBk.out⟩

end Go.Proofs.YtajilipbnfpemaaDoor
