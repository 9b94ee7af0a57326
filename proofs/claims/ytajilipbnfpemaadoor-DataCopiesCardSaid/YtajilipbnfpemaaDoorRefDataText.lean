/- Walks: the reference's text of an example; the comparison of examples. Conditions: none. -/
import Derived.Test.YtajilipbnfpemaaDoorDataText
import Derived.Test.YtajilipbnfpemaaDoorRefText
import Derived.Test.YtajilipbnfpemaaDoorDecLen
import Derived.BigQuiet
namespace Go.Proofs.YtajilipbnfpemaaDoor
open Go.RowKit

theorem row_len (q : Nat) (hq : q ≤ 62) : ∀ zs : List Int, (∀ z ∈ zs, In64 z) → (rowText zs q).length ≤ 101 * zs.length
  | [], _ => by simp [rowText, txtL, Lib.join_nil]
  | [z], h => by
    have := decText_len z q hq (h z (by simp))
    simp only [rowText, txtL, List.map_cons, List.map_nil, Lib.join_one, List.length_singleton]
    omega
  | z :: y :: zs, h => by
    have ih := row_len q hq (y :: zs) (fun x hx => h x (by simp at hx ⊢; exact .inr hx))
    have hd := decText_len z q hq (h z (by simp))
    have e : rowText (z :: y :: zs) q = decText z q ++ 32 :: rowText (y :: zs) q := by
      unfold rowText txtL
      simp only [List.map_cons]
      rw [Lib.join_cons, Lib.join_cons]
      simp [Lib.joinTail]
    rw [e]
    simp only [List.length_append, List.length_cons] at ih ⊢
    omega

theorem row_snoc (q : Nat) (zs : List Int) (x : Int) (h : zs ≠ []) : rowText (zs ++ [x]) q = rowText zs q ++ [32] ++ decText x q := by
  unfold rowText txtL
  rw [List.map_append]
  have := join_app 32 (zs.map fun x => decText x q) [decText x q] (by simpa using h) (by simp)
  rw [Lib.join_one] at this
  simpa using this

set_option maxHeartbeats 2000000 in
theorem refTexts_any (A : Option Addr) (cap : Nat) (zs : List Int) (q : Nat) (hq : q ≤ 62) (hz : ∀ x ∈ zs, In64 x) (hl : zs.length ≤ 100000) (w : World) (hr : RdI w w.heap.size A zs) :
    Calls Tryd.prog 72 #[.slice A zs.length cap, .int .i64 q] w fun e w' => e = .returned (.string ⟨(rowText zs q).toArray⟩) ∧ Below w.heap.size w w' := by
  have HR := Lib.hid hr
  have HT := Lib.hid (fun (x : Int) (hx : In64 x) W => refText_any x q hq hx W)
  have HZ := Lib.hid hz
  have HQ := Lib.hid hq
  have HL := Lib.hid hl
  clear hr hz hq hl
  go_enter Tryd.func72, Tryd.ntmps72
  go_wp2_with fail
  go_loopw [5, 6] (fun v i wr => ∃ k : Nat, k ≤ zs.length ∧ i = .int .i64 k ∧ v = .string ⟨(rowText (zs.take k) q).toArray⟩ ∧ Hid (Below w.heap.size w wr)) (fun _ i _ => zs.length - (intOf i).toNat)
  case atStart => exact ⟨0, Nat.zero_le _, rfl, rfl, Lib.hid (Below.refl _ _)⟩
  case round =>
    obtain ⟨k, hk, rfl, rfl, HBk⟩ := hrel
    have hzl : (zs.length : Int) ≤ 100000 := by have h := HL.out; omega
    by_cases hlt : k < zs.length
    · obtain ⟨b, off, rfl, hb, hcz⟩ := HR.out.at_ (by omega)
      obtain ⟨x, hx⟩ := get_some zs k hlt
      have c1 : wr.cell? ⟨b, off + k, none⟩ = some (.int .i64 x) := (HBk.out.cell (p := ⟨b, off + k, none⟩) hb).trans (hcz k x hx)
      have hxi := HZ.out x (List.mem_of_getElem? hx)
      have hpl := row_len q HQ.out (zs.take k) (fun z h => HZ.out z (List.mem_of_mem_take h))
      have htl := decText_len x q HQ.out hxi
      have htk : (zs.take k).length ≤ k := List.length_take_le k zs
      have htake : zs.take (k + 1) = zs.take k ++ [x] := by rw [List.take_add_one, hx]; rfl
      have hne : k ≠ 0 → zs.take k ≠ [] := fun h0 e => by
        have h1 := congrArg List.length e
        rw [List.length_take, List.length_nil] at h1
        omega
      have HN := Lib.hid (fun h0 : k ≠ 0 => show rowText (zs.take (k + 1)) q = rowText (zs.take k) q ++ [32] ++ decText x q by rw [htake]; exact row_snoc q _ x (hne h0))
      have HN0 := Lib.hid (fun h0 : k = 0 => show rowText (zs.take (k + 1)) q = decText x q ∧ rowText (zs.take k) q = [] by
        subst h0
        rw [htake, List.take_zero, List.nil_append]
        exact ⟨by simp only [rowText, txtL, List.map_cons, List.map_nil, Lib.join_one], rfl⟩)
      have HTx := Lib.hid (HT.out x hxi)
      have sz : ∀ l : List UInt8, (⟨l.toArray⟩ : ByteArray).size = l.length := fun l => by simp [ByteArray.size]
      obtain ⟨p, hp⟩ : ∃ p : ByteArray, ⟨(rowText (zs.take k) q).toArray⟩ = p := ⟨_, rfl⟩
      obtain ⟨t, ht⟩ : ∃ t : ByteArray, ⟨(decText x q).toArray⟩ = t := ⟨_, rfl⟩
      have hps : p.size ≤ 20000000 := by rw [← hp, sz]; omega
      have hts : t.size ≤ 100 := by rw [← ht, sz]; exact htl
      have HP := Lib.hid hp
      have HTT := Lib.hid ht
      rw [ht] at HTx
      rw [hp]
      by_cases h0 : k = 0
      · have HE := Lib.hid (show p ++ t = ⟨(rowText (zs.take (k + 1)) q).toArray⟩ by
          rw [(HN0.out h0).1, ← HP.out, (HN0.out h0).2, ← HTT.out]
          rw [ByteArray.mk_append_mk]
          rfl)
        have hk0 : ¬ (0 : Int) < (k : Int) := by omega
        clear hcz hx hxi hpl htl htk htake hne sz hp ht h0
        go_wp2_with fail
        (with_reducible refine (HTx.out _).mono ?_)
        rintro e w1 ⟨rfl, hb1⟩
        have HB1 := Lib.hid (HBk.out.trans (hb1.mono HBk.out.size))
        clear hb1 HBk c1
        go_wp2_with fail
        rw [HE.out]
        go_roundw
        case rel => exact ⟨k + 1, by omega, by go_num, rfl, HB1⟩
        case measure => simp [intOf]; omega
      · have HE := Lib.hid (show p ++ ⟨#[32]⟩ ++ t = ⟨(rowText (zs.take (k + 1)) q).toArray⟩ by
          rw [HN.out h0, ← HP.out, ← HTT.out, show (⟨#[32]⟩ : ByteArray) = ⟨([32] : List UInt8).toArray⟩ from rfl, ByteArray.mk_append_mk, ByteArray.mk_append_mk])
        have hk0 : (0 : Int) < (k : Int) := by omega
        clear hcz hx hxi hpl htl htk htake hne sz hp ht h0
        go_wp2_with fail
        (with_reducible refine (HTx.out _).mono ?_)
        rintro e w1 ⟨rfl, hb1⟩
        have HB1 := Lib.hid (HBk.out.trans (hb1.mono HBk.out.size))
        clear hb1 HBk c1
        go_wp2_with fail
        rw [HE.out]
        go_roundw
        case rel => exact ⟨k + 1, by omega, by go_num, rfl, HB1⟩
        case measure => simp [intOf]; omega
    · have hke : k = zs.length := by omega
      subst hke
      rw [List.take_of_length_le (Nat.le_refl _)]
      go_wp2_with fail
      go_ret
      exact ⟨rfl, HBk.out⟩

/-- Two rows of numbers are compared. -/
def DiffAt (xs us : List Int) (w : World) (e : Ending) (w' : World) : Prop := (∃ d : Int, e = .returned (.int .i64 d) ∧ (d < 0 ↔ xs = us)) ∧ Below w.heap.size w w'

set_option maxHeartbeats 2000000 in
theorem differ_any (A C : Option Addr) (cap cap' : Nat) (xs us : List Int) (w : World) (hr : RdI w w.heap.size A xs) (hs : RdI w w.heap.size C us) (hx : xs.length ≤ 9223372036854775807) (hu : us.length ≤ 9223372036854775807) :
    Calls Tryd.prog 81 #[.slice A xs.length cap, .slice C us.length cap'] w (DiffAt xs us w) := by
  have HR := Lib.hid hr
  have HS := Lib.hid hs
  have hxl : (xs.length : Int) ≤ 9223372036854775807 := by omega
  have hul : (us.length : Int) ≤ 9223372036854775807 := by omega
  clear hr hs hx hu
  go_enter Tryd.func81, Tryd.ntmps81
  go_wp2_with fail
  go_loopw [5] (fun i wr => ∃ k : Nat, k ≤ xs.length ∧ k ≤ us.length ∧ i = .int .i64 k ∧ Hid (xs.take k = us.take k) ∧ Hid (Below w.heap.size w wr)) (fun i _ => xs.length + us.length - (intOf i).toNat)
  case atStart => exact ⟨0, Nat.zero_le _, Nat.zero_le _, rfl, Lib.hid rfl, Lib.hid (Below.refl _ _)⟩
  case round =>
    obtain ⟨k, hk, hk', rfl, HT, HBk⟩ := hrel
    by_cases h1 : k < xs.length
    · by_cases h2 : k < us.length
      · obtain ⟨b, off, rfl, hb, hcz⟩ := HR.out.at_ (by omega)
        obtain ⟨b', off', rfl, hb', hcz'⟩ := HS.out.at_ (by omega)
        obtain ⟨x, hx⟩ := get_some xs k h1
        obtain ⟨u, hu⟩ := get_some us k h2
        have c1 : wr.cell? ⟨b, off + k, none⟩ = some (.int .i64 x) := (HBk.out.cell (p := ⟨b, off + k, none⟩) hb).trans (hcz k x hx)
        have c2 : wr.cell? ⟨b', off' + k, none⟩ = some (.int .i64 u) := (HBk.out.cell (p := ⟨b', off' + k, none⟩) hb').trans (hcz' k u hu)
        have tx : xs.take (k + 1) = xs.take k ++ [x] := by rw [List.take_add_one, hx]; rfl
        have tu : us.take (k + 1) = us.take k ++ [u] := by rw [List.take_add_one, hu]; rfl
        by_cases he : x = u
        · have HT' := Lib.hid (show xs.take (k + 1) = us.take (k + 1) by rw [tx, tu, HT.out, he])
          have hq : (x != u) = false := by simp [he]
          clear hcz hcz' hx hu tx tu he
          go_wp2_with fail
          go_quiet (fail)
          go_wp2_with fail
          go_roundw
          case rel => exact ⟨k + 1, by omega, by omega, by go_num, HT', Lib.hid (below_drewN HBk.out _)⟩
          case measure => simp [intOf]; omega
        · have HN := Lib.hid (show xs ≠ us from fun e => he (by rw [e, hu] at hx; injection hx with hx; exact hx.symm))
          have hq : (x != u) = true := by simp [he]
          clear hcz hcz' hx hu tx tu he
          go_wp2_with fail
          go_quiet (fail)
          go_wp2_with fail
          go_ret
          exact ⟨⟨_, rfl, fun h => by omega, fun h => absurd h HN.out⟩, below_drewN HBk.out _⟩
      · have HN := Lib.hid (show xs ≠ us from fun e => h2 (by rw [← e]; exact h1))
        have G1 := Lib.hid (show decide (xs.length ≤ k) = false from decide_eq_false (by omega))
        have G2 := Lib.hid (show decide (us.length ≤ k) = true from decide_eq_true (by omega))
        go_wp2_with fail
        have g1 := G1.out
        have g2 := G2.out
        go_quiet (fail)
        go_wp2_with fail
        go_ret
        exact ⟨⟨_, rfl, fun h => by omega, fun h => absurd h HN.out⟩, below_drewN HBk.out _⟩
    · by_cases h2 : k < us.length
      · have HN := Lib.hid (show xs ≠ us from fun e => h1 (by rw [e]; exact h2))
        have G1 := Lib.hid (show decide (xs.length ≤ k) = true from decide_eq_true (by omega))
        go_wp2_with fail
        have g1 := G1.out
        go_quiet (fail)
        go_wp2_with fail
        go_ret
        exact ⟨⟨_, rfl, fun h => by omega, fun h => absurd h HN.out⟩, below_drewN HBk.out _⟩
      · have HE := Lib.hid (show xs = us by
          have := HT.out
          rw [List.take_of_length_le (by omega), List.take_of_length_le (by omega)] at this
          exact this)
        go_wp2_with fail
        go_ret
        exact ⟨⟨_, rfl, fun _ => HE.out, fun _ => by decide⟩, HBk.out⟩

end Go.Proofs.YtajilipbnfpemaaDoor
