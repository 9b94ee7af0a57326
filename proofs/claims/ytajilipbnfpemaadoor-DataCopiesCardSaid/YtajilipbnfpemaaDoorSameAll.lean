/- Walks: the reference's SameAll at lists of the same examples. Conditions: none. -/
import Derived.Test.YtajilipbnfpemaaDoorDataSame
namespace Go.Proofs.YtajilipbnfpemaaDoor
open Go.RowKit

/-- The same examples, wherever they lie. -/
def SameL (l m : List Ex) : Prop := l.length = m.length ∧ ∀ (k : Nat) (e f : Ex), l[k]? = some e → m[k]? = some f → e.xs = f.xs ∧ e.ys = f.ys

set_option maxRecDepth 100000 in
set_option maxHeartbeats 2000000 in
theorem sameAll_yes (A C : Option Addr) (cap cap' : Nat) (l m : List Ex) (w : World) (hr : RdE w w.heap.size A l) (hs : RdE w w.heap.size C m) (hl : l.length ≤ 9223372036854775807) (hS : SameL l m) :
    Calls Tryd.prog 28 #[.slice A l.length cap, .slice C m.length cap'] w fun e w' => e = .returned (.bool true) ∧ Below w.heap.size w w' := by
  have HS := Lib.hid (fun (k : Nat) (e f : Ex) (h1 : l[k]? = some e) (h2 : m[k]? = some f) W (hW : Below w.heap.size w W) =>
    sameEx_any e f W (((hr.2 e (List.mem_of_getElem? h1)).below hW).more hW.size) (((hs.2 f (List.mem_of_getElem? h2)).below hW).more hW.size))
  have HT := Lib.hid (fun (k : Nat) (e f : Ex) (h1 : l[k]? = some e) (h2 : m[k]? = some f) => show sameEx e f = true by unfold sameEx; rw [(hS.2 k e f h1 h2).1, (hS.2 k e f h1 h2).2]; simp)
  rw [← hS.1]
  have HR := Lib.hid hr
  have HQ := Lib.hid hs
  have HL := Lib.hid hS.1
  have hne : ((l.length : Int) != (l.length : Int)) = false := by simp
  clear hr hs hS
  go_enter Tryd.func28, Tryd.ntmps28
  go_wp2_with fail
  go_loopw [5] (fun i wr => ∃ k : Nat, k ≤ l.length ∧ i = .int .i64 k ∧ Hid (Below w.heap.size w wr)) (fun i _ => l.length - (intOf i).toNat)
  case atStart => exact ⟨0, Nat.zero_le _, rfl, Lib.hid (Below.refl _ _)⟩
  case round =>
    obtain ⟨k, hk, rfl, HBk⟩ := hrel
    by_cases hlt : k < l.length
    · obtain ⟨b, off, rfl, hb, hcs⟩ := HR.out.at_ (by omega)
      have hlm := HL.out
      obtain ⟨b', off', rfl, hb', hcs'⟩ := HQ.out.at_ (by omega)
      obtain ⟨ex, hex⟩ := get_some l k hlt
      obtain ⟨ey, hey⟩ := get_some m k (by omega)
      have HSk := Lib.hid (HS.out k ex ey hex hey)
      have HTk := HT.out k ex ey hex hey
      rw [HTk] at HSk
      unfold Ex.val at HSk
      have HC := Lib.hid (And.intro ((HBk.out.cell (p := ⟨b, off + k * 2, none⟩) hb).trans (hcs k ex hex).1) (And.intro ((HBk.out.cell (p := ⟨b, off + k * 2 + 1, none⟩) hb).trans (hcs k ex hex).2) (And.intro ((HBk.out.cell (p := ⟨b', off' + k * 2, none⟩) hb').trans (hcs' k ey hey).1) ((HBk.out.cell (p := ⟨b', off' + k * 2 + 1, none⟩) hb').trans (hcs' k ey hey).2))))
      have HCB := Lib.hid (fun W (hW : Below w.heap.size w W) => And.intro ((hW.cell (p := ⟨b, off + k * 2, none⟩) hb).trans (hcs k ex hex).1) (And.intro ((hW.cell (p := ⟨b, off + k * 2 + 1, none⟩) hb).trans (hcs k ex hex).2) (And.intro ((hW.cell (p := ⟨b', off' + k * 2, none⟩) hb').trans (hcs' k ey hey).1) ((hW.cell (p := ⟨b', off' + k * 2 + 1, none⟩) hb').trans (hcs' k ey hey).2))))
      have h0 : (0 : Int) ≤ (k : Int) := by omega
      have h1 : (k : Int) < (l.length : Int) := by omega
      clear hcs hcs' hex hey hlm HTk HS
      go_wp2_with fail
      go_region_held3 (fun w' => w'.cell? ⟨b, off + k * 2, none⟩ = some (.slice ex.ax ex.xs.length ex.cx) ∧ w'.cell? ⟨b, off + k * 2 + 1, none⟩ = some (.slice ex.ay ex.ys.length ex.cy) ∧ w'.cell? ⟨b', off' + k * 2, none⟩ = some (.slice ey.ax ey.xs.length ey.cx) ∧ w'.cell? ⟨b', off' + k * 2 + 1, none⟩ = some (.slice ey.ay ey.ys.length ey.cy))
        (first
          | exact HCB.out _ HB1.out
          | exact HC.out)
        (first
          | (go_at_call 35
             (with_reducible refine (HSk.out _ (below_drew HBk.out)).mono ?_)
             rintro e w1 ⟨rfl, hb1⟩
             have HB1 := Lib.hid ((below_drew HBk.out).trans (hb1.mono HBk.out.size))
             clear hb1 HBk HSk))
      go_wp2_with fail
      go_roundw
      case rel => exact ⟨k + 1, by omega, by go_num, HB1⟩
      case measure => simp [intOf]; omega
    · have hge : l.length ≤ k := by omega
      go_wp2_with fail
      go_ret
      exact ⟨rfl, HBk.out⟩

end Go.Proofs.YtajilipbnfpemaaDoor
