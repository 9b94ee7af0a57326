/- Walks: how the fields of a configuration are written. Conditions: the table of powers of ten reads as listed. -/
import Derived.Test.YtiokdfkddcokoaaGreatDoorConfFld
import Derived.Test.YtiokdfkddcokoaaGreatDoorConfWords
import Derived.Test.YtiokdfkddcokoaaGreatDoorJoined
import Derived.Test.YtiokdfkddcokoaaGreatDoorDeciText
import Derived.Test.YtiokdfkddcokoaaGreatDoorOwn
namespace Go.Proofs.YtiokdfkddcokoaaGreatDoor
open Go.RowKit

/-- The class of the worlds that keep what lay below. -/
def Keeps (w W : World) : Prop := Below w.heap.size w W
theorem wp_region_in {P : Program} {C : World → Prop} {id : Nat} {Q : Exit → Act → World → Prop} {a : Act} {w : World} {l : List Oper} (hm : P.follows .mixedOrders = true) (hB : Region.lexB .any l.toArray = true) (hC : C w.drew)
    (h : wpQuiet P l.toArray C (fun a' => ∀ w', C w' → Q .normal a' w') l a) : (Code.region id l.toArray true).wp P Q a w :=
  wp_region_quiet (C := C) hm hB hC (by simpa using h)
theorem Keeps.cell {w W : World} (h : Keeps w W) {b o : Nat} {v : Value} (hc : w.cell? ⟨b, o, none⟩ = some v) : W.cell? ⟨b, o, none⟩ = some v :=
  (Below.cell h (p := ⟨b, o, none⟩) (World.block_lt_of_cell? w _ hc)).trans hc
theorem Keeps.self (w : World) : Keeps w w.drew := below_drew (Below.refl _ _)

theorem itoa_any (x : Int) (hx : In64 x) (B : Nat) (w : World) (hp : Pow B w) : Calls Tryz.prog 47 #[.int .i64 x] w fun e w' => e = .returned (.string ⟨(Lib.itoa x).toArray⟩) ∧ Below w.heap.size w w' :=
  (Tryz.strconv_Itoa x hx.1 hx.2 w hp.here).mono fun _ _ ⟨he, _, _, hw⟩ => ⟨he, hw ▸ Lib.below_grow _ _ (Nat.le_refl _) _ _⟩

set_option maxRecDepth 100000 in
set_option maxHeartbeats 4000000 in
theorem decWrite_any (b1 b2 g k : Nat) (x most : Int) (hx : In64 x) (B : Nat) (w : World) (hp : Pow B w) (hB : B ≤ w.heap.size) (h1 : w.cell? ⟨b1, 0, none⟩ = some (.pointer (some ⟨g, k, none⟩))) (h2 : w.cell? ⟨b2, 0, none⟩ = some (.int .i64 most)) (h3 : w.cell? ⟨g, k, none⟩ = some (.int .i64 x)) :
    Calls Tryz.prog 46 #[.pointer (some ⟨b1, 0, none⟩), .pointer (some ⟨b2, 0, none⟩)] w fun e w' => e = .returned (.tuple #[.string ⟨(Lib.itoa x).toArray⟩, .bool (decide (0 ≤ x ∧ x ≤ most))]) ∧ Below w.heap.size w w' := by
  have HI := Lib.hid (fun W (hb : Keeps w W) => itoa_any x hx B W (hp.on (hb.mono hB)))
  have HL := Lib.hid (fun W (hW : Keeps w W) => And.intro (hW.cell h1) (And.intro (hW.cell h2) (hW.cell h3)))
  obtain ⟨nm, hnm⟩ : ∃ nm : ByteArray, ⟨(Lib.itoa x).toArray⟩ = nm := ⟨_, rfl⟩
  rw [hnm] at HI ⊢
  have h64 := hx
  unfold In64 at h64
  obtain ⟨h64a, h64b⟩ := h64
  clear hnm h1 h2 h3 hp hx hB
  have h3 : (decide (0 ≤ x) = false ∧ Hid (decide (0 ≤ x ∧ x ≤ most) = false)) ∨ (decide (0 ≤ x) = true ∧ decide (x ≤ most) = true ∧ Hid (decide (0 ≤ x ∧ x ≤ most) = true)) ∨ (decide (0 ≤ x) = true ∧ decide (x ≤ most) = false ∧ Hid (decide (0 ≤ x ∧ x ≤ most) = false)) := by
    by_cases h0 : 0 ≤ x
    · by_cases h1 : x ≤ most
      · exact .inr (.inl ⟨decide_eq_true h0, decide_eq_true h1, Lib.hid (decide_eq_true ⟨h0, h1⟩)⟩)
      · exact .inr (.inr ⟨decide_eq_true h0, decide_eq_false h1, Lib.hid (decide_eq_false fun h => h1 h.2)⟩)
    · exact .inl ⟨decide_eq_false h0, Lib.hid (decide_eq_false fun h => h0 h.1)⟩
  rcases h3 with ⟨d0, hE⟩ | ⟨d0, d1, hE⟩ | ⟨d0, d1, hE⟩
  all_goals
    go_enter Tryz.func46, Tryz.ntmps46
    go_wp2_with fail
    refine wp_region_in (C := Keeps w) (by kernel_rfl) (by kernel_rfl) (Keeps.self w) ?_
    repeat (first
      | go_big_quiet_skip
      | (go_big_quiet_want; go_big_quiet_op; first
          | go_big_quiet_on
          | (refine ⟨.pointer (some ⟨g, k, none⟩), ?_, ?_⟩; (focus (intro W hW; simp [(HL.out W hW).1, Result.andThen]; done)); go_big_quiet_on)
          | (refine ⟨.int .i64 x, ?_, ?_⟩; (focus (intro W hW; simp [(HL.out W hW).2.2, Result.andThen]; done)); go_big_quiet_on)
          | (refine ⟨.int .i64 most, ?_, ?_⟩; (focus (intro W hW; simp [(HL.out W hW).2.1, Result.andThen]; done)); go_big_quiet_on)
          | (refine ⟨_, fun _ _ => rfl, ?_⟩; go_big_quiet_on)
          | (apply Exists.intro; refine ⟨fun _ => ?_, ?_⟩; (focus (intro hC; go_at_call 47; exact (HI.out _ hC).mono fun _ _ h => ⟨h.1, Below.trans hC (h.2.mono (Below.size hC))⟩)); go_big_quiet_on)))
    refine wpQuiet_nil ?_
    intro w9 hC9
    have HB9 := Lib.hid hC9
    clear hC9
    go_wp2_with fail
    go_ret2
    exact ⟨by rw [hE.out]; rfl, HB9.out⟩

set_option maxRecDepth 100000 in
set_option maxHeartbeats 4000000 in
theorem fraWrite_any (b1 b2 g k : Nat) (x : Int) (q : Nat) (hq : q ≤ 62) (hx : In64 x) (B : Nat) (w : World) (hp : Pow B w) (hB : B ≤ w.heap.size) (h1 : w.cell? ⟨b1, 0, none⟩ = some (.pointer (some ⟨g, k, none⟩))) (h2 : w.cell? ⟨b2, 0, none⟩ = some (.pointer (some ⟨g, 1, none⟩))) (h3 : w.cell? ⟨g, k, none⟩ = some (.int .i64 x)) (h4 : w.cell? ⟨g, 1, none⟩ = some (.int .i64 q)) :
    Calls Tryz.prog 52 #[.pointer (some ⟨b1, 0, none⟩), .pointer (some ⟨b2, 0, none⟩)] w fun e w' => e = .returned (.tuple #[.string ⟨(decText x q).toArray⟩, .bool true]) ∧ Below w.heap.size w w' := by
  have HI := Lib.hid (fun W (hb : Keeps w W) => decText_any x q hq hx B W (hp.on (hb.mono hB)) (Nat.le_trans hB (Below.size hb)))
  have HL := Lib.hid (fun W (hW : Keeps w W) => And.intro (And.intro (hW.cell h1) (hW.cell h2)) (And.intro (hW.cell h3) (hW.cell h4)))
  obtain ⟨nm, hnm⟩ : ∃ nm : ByteArray, ⟨(decText x q).toArray⟩ = nm := ⟨_, rfl⟩
  rw [hnm] at HI ⊢
  clear hnm h1 h2 h3 h4 hp hx hB hq
  go_enter Tryz.func52, Tryz.ntmps52
  go_wp2_with fail
  refine wp_region_in (C := Keeps w) (by kernel_rfl) (by kernel_rfl) (Keeps.self w) ?_
  repeat (first
    | go_big_quiet_skip
    | (go_big_quiet_want; go_big_quiet_op; first
        | go_big_quiet_on
        | (refine ⟨.pointer (some ⟨g, k, none⟩), ?_, ?_⟩; (focus (intro W hW; simp [(HL.out W hW).1.1, Result.andThen]; done)); go_big_quiet_on)
        | (refine ⟨.pointer (some ⟨g, 1, none⟩), ?_, ?_⟩; (focus (intro W hW; simp [(HL.out W hW).1.2, Result.andThen]; done)); go_big_quiet_on)
        | (refine ⟨.int .i64 x, ?_, ?_⟩; (focus (intro W hW; simp [(HL.out W hW).2.1, Result.andThen]; done)); go_big_quiet_on)
        | (refine ⟨.int .i64 q, ?_, ?_⟩; (focus (intro W hW; simp [(HL.out W hW).2.2, Result.andThen]; done)); go_big_quiet_on)
        | (refine ⟨_, fun _ _ => rfl, ?_⟩; go_big_quiet_on)
        | (apply Exists.intro; refine ⟨fun _ => ?_, ?_⟩; (focus (intro hC; go_at_call 53; exact (HI.out _ hC).mono fun _ _ h => ⟨h.1, Below.trans hC (h.2.mono (Below.size hC))⟩)); go_big_quiet_on)))
  refine wpQuiet_nil ?_
  intro w9 hC9
  have HB9 := Lib.hid hC9
  clear hC9
  go_wp2_with fail
  go_ret2
  exact ⟨rfl, HB9.out⟩

/-- All numbers of a list are numbers of a text. -/
def szOk (zs : List Int) : Bool := zs.all fun z => decide (0 ≤ z) && decide (z ≤ 1048576)
def szBs (zs : List Int) : List ByteArray := zs.map fun z => ⟨(Lib.itoa z).toArray⟩

theorem join_le (c : UInt8) (m : Nat) : ∀ l : List (List UInt8), (∀ y ∈ l, y.length ≤ m) → (Lib.join l [c]).length ≤ (m + 1) * l.length
  | [], _ => by simp [Lib.join_nil]
  | [x], h => by
    have := h x (by simp)
    rw [Lib.join_one]
    simp
    omega
  | x :: y :: r, h => by
    have ih := join_le c m (y :: r) fun z hz => h z (by simp at hz ⊢; exact .inr hz)
    have hx := h x (by simp)
    have e : Lib.join (x :: y :: r) [c] = x ++ c :: Lib.join (y :: r) [c] := by
      rw [Lib.join_cons, Lib.join_cons]
      simp [Lib.joinTail]
    rw [e, List.length_append, List.length_cons]
    simp only [List.length_cons] at ih ⊢
    rw [Nat.mul_succ (m + 1) (r.length + 1)]
    omega
theorem sz_len (zs : List Int) (h : ∀ z ∈ zs, In64 z) : (szText zs).length ≤ 22 * zs.length := by
  have := join_le 44 21 (zs.map Lib.itoa) fun y hy => by
    obtain ⟨z, hz, rfl⟩ := List.mem_map.1 hy
    exact itoa_len (h z hz)
  rw [List.length_map] at this
  exact this

set_option maxRecDepth 100000 in
set_option maxHeartbeats 8000000 in
theorem szWrite_any (b g : Nat) (A : Option Addr) (cap : Nat) (zs : List Int) (hl : zs.length ≤ 1000) (hz : ∀ z ∈ zs, In64 z) (B : Nat) (w : World) (hp : Pow B w) (hB : B ≤ w.heap.size) (h1 : w.cell? ⟨b, 0, none⟩ = some (.pointer (some ⟨g, 0, none⟩))) (h2 : w.cell? ⟨g, 0, none⟩ = some (.slice A zs.length cap)) (hr : RdI w w.heap.size A zs) :
    Calls Tryz.prog 50 #[.pointer (some ⟨b, 0, none⟩)] w fun e w' => e = .returned (.tuple #[.string ⟨(szText zs).toArray⟩, .bool (decide (0 < zs.length) && szOk zs)]) ∧ Below w.heap.size w w' := by
  obtain ⟨i0, hi, hz0, hz1, hz2⟩ := info_parts infoStr
  have HI := Lib.hid (And.intro hi (And.intro hz0 (And.intro hz1 hz2)))
  have HT := Lib.hid (fun (z : Int) (hz : In64 z) W (hb : Below w.heap.size w W) => itoa_any z hz B W (hp.on (hb.mono hB)))
  have HZ := Lib.hid hz
  have HR := Lib.hid hr
  have HL := Lib.hid hl
  have hl0 : (zs.length : Int) ≤ 1000 := by omega
  clear hi hz0 hz1 hz2 hz hp hB hr hl
  go_enter Tryz.func50, Tryz.ntmps50
  go_wp2_with fail
  go_loopw [3, 4, 6, 16] (fun v o _ i wr => ∃ (k : Nat) (ok : Bool), k ≤ zs.length ∧ i = .int .i64 k ∧ o = .bool ok ∧ Hid (ok = (decide (0 < zs.length) && szOk (zs.take k))) ∧ Hid (wr.ownsRow w.heap.size 9 1 v k ((szBs (zs.take k)).map Value.string)) ∧ Hid (Below w.heap.size w wr)) (fun _ _ _ i _ => zs.length - (intOf i).toNat)
  case atStart => exact ⟨0, _, Nat.zero_le _, rfl, rfl, Lib.hid (by simp [szOk]), Lib.hid (own_nil _ _ _ _), Lib.hid (Below.refl _ _)⟩
  case round =>
    obtain ⟨k, ok, hk, rfl, rfl, HOKk, HOk, HBk⟩ := hrel
    by_cases hlt : k < zs.length
    · obtain ⟨bA, off, rfl, hbA, hcz⟩ := HR.out.at_ (by omega)
      obtain ⟨z, hz⟩ := get_some zs k hlt
      have cz : wr.cell? ⟨bA, off + k, none⟩ = some (.int .i64 z) := (HBk.out.cell (p := ⟨bA, off + k, none⟩) hbA).trans (hcz k z hz)
      have tz : zs.take (k + 1) = zs.take k ++ [z] := by rw [List.take_add_one, hz]; rfl
      have HTZ := Lib.hid (HT.out z (HZ.out z (List.mem_of_getElem? hz)))
      have k0 : (0 : Int) ≤ (k : Int) := by omega
      have k1 : (k : Int) < (zs.length : Int) := by omega
      have hkl : k ≤ 1000 := by have := HL.out; omega
      have key : ∃ ok', (∃ (_ : ok = false), ok' = false) ∨ (∃ (_ : ok = true) (_ : 0 ≤ z) (_ : z ≤ 1048576), ok' = true) ∨ (∃ (_ : ok = true) (_ : z < 0), ok' = false) ∨ (∃ (_ : ok = true) (_ : 0 ≤ z) (_ : decide (z ≤ 1048576) = false), ok' = false) := by
        cases ok
        · exact ⟨false, .inl ⟨rfl, rfl⟩⟩
        · by_cases h0 : 0 ≤ z
          · by_cases h1 : z ≤ 1048576
            · exact ⟨true, .inr (.inl ⟨rfl, h0, h1, rfl⟩)⟩
            · exact ⟨false, .inr (.inr (.inr ⟨rfl, h0, decide_eq_false h1, rfl⟩))⟩
          · exact ⟨false, .inr (.inr (.inl ⟨rfl, by omega, rfl⟩))⟩
      obtain ⟨ok', hk'⟩ := key
      have HOK' : Hid (ok' = (decide (0 < zs.length) && szOk (zs.take (k + 1)))) := Lib.hid (by
        have e : szOk (zs.take (k + 1)) = (szOk (zs.take k) && (decide (0 ≤ z) && decide (z ≤ 1048576))) := by rw [tz]; simp [szOk, List.all_append]
        rw [e, ← Bool.and_assoc, ← HOKk.out]
        rcases hk' with ⟨h, rfl⟩ | ⟨h, h0, h1, rfl⟩ | ⟨h, h0, rfl⟩ | ⟨h, h0, h1, rfl⟩
        · rw [h]; rfl
        · rw [h, decide_eq_true h0, decide_eq_true h1]; rfl
        · rw [h, decide_eq_false (by omega)]; rfl
        · rw [h, decide_eq_true h0, h1]; rfl)
      have HTK := Lib.hid (show (szBs (zs.take (k + 1))).map Value.string = (szBs (zs.take k)).map Value.string ++ [.string ⟨(Lib.itoa z).toArray⟩] by rw [tz]; simp [szBs])
      clear hcz hz tz HR HT HZ HOKk
      rcases hk' with ⟨rfl, rfl⟩ | ⟨rfl, h0, h1, rfl⟩ | ⟨rfl, h0, rfl⟩ | ⟨rfl, h0, h1, rfl⟩
      all_goals
        go_wp2_with fail
        (with_reducible refine (HTZ.out _ HBk.out).mono ?_)
        rintro e w2 ⟨rfl, hb⟩
        have HB2 := Lib.hid (HBk.out.trans (hb.mono HBk.out.size))
        have HO2 := Lib.hid (own_below HOk.out hb)
        clear hb HBk HOk HTZ cz
        go_wp2_with (at_builtin; refine wpList_append_own _ rfl _ _ 35 rfl w.heap.size 9 i0 (.string ByteArray.empty) 1 16 Tryz.underlying35 HI.out.1 HI.out.2.1 HI.out.2.2.1 HI.out.2.2.2 rfl (by decide) _ _ _ rfl (HO2.out.alloc _) ⟨w2.heap.size, 0, none⟩ 1 1 [.string ⟨(Lib.itoa z).toArray⟩] rfl rfl (fun j u hj => by
          match j, hj with
          | 0, hj => simp at hj; subst hj; simp [Addr.add]) (fun u hu => by simp at hu; subst hu; rfl) (by unfold maxLen; omega) (by omega) (by have := HB2.out.size; simp; omega) ?_; intro v' w3 hown' hgrow _)
        have HB3 := Lib.hid (below_own (HB2.out.alloc HB2.out.size _) (Nat.le_refl _) (Nat.le_refl _) (HO2.out.alloc _) hgrow)
        have HO3 := Lib.hid hown'
        clear hown' hgrow HB2 HO2
        go_wp2_with fail
        go_roundw
        case rel => exact ⟨k + 1, _, by omega, by go_num, rfl, HOK', Lib.hid (by rw [HTK.out]; exact HO3.out), HB3⟩
        case measure => simp [intOf]; omega
    · have hke : k = zs.length := by omega
      subst hke
      have hO := HOk.out
      rw [List.take_of_length_le (Nat.le_refl _)] at hO
      have hln : (szBs zs).length = zs.length := by simp [szBs]
      rw [← hln] at hO
      have hdt : (szBs zs).map (·.data.toList) = zs.map Lib.itoa := by simp [szBs]
      have hjn : Lib.join ((szBs zs).map (·.data.toList)) (⟨#[44]⟩ : ByteArray).data.toList = szText zs := by rw [hdt]; rfl
      have hsl := sz_len zs HZ.out
      have hll := HL.out
      have HJ := Lib.hid (join_own _ (szBs zs) ⟨#[44]⟩ _ _ hO (by omega) (by rw [hjn]; omega))
      rw [hjn] at HJ
      have HOK' := Lib.hid (show ok = (decide (0 < zs.length) && szOk zs) by have := HOKk.out; rw [List.take_of_length_le (Nat.le_refl _)] at this; exact this)
      clear hO hln hdt hjn hsl hll HOKk HOk
      go_wp2_with fail
      (with_reducible refine HJ.out.mono ?_)
      rintro e w9 ⟨rfl, hb9⟩
      have HB9 := Lib.hid (HBk.out.trans (hb9.mono HBk.out.size))
      clear hb9
      go_wp2_with fail
      go_ret2
      exact ⟨by rw [HOK'.out]; rfl, HB9.out⟩

end Go.Proofs.YtiokdfkddcokoaaGreatDoor
