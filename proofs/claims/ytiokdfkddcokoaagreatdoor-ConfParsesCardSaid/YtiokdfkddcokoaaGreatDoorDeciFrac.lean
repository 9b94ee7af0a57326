/- Walks: deci.fraction. Conditions: none. -/
import Derived.Test.YtiokdfkddcokoaaGreatDoorRefNum
import Derived.Test.YtiokdfkddcokoaaGreatDoorBuilder
import Derived.Test.YtiokdfkddcokoaaGreatDoorAppend
import Derived.Lib.OthersKept
import Derived.Laws.MakeOwn
namespace Go.Proofs.YtiokdfkddcokoaaGreatDoor
open Go.RowKit

/-- Digits as cells. -/
def cellsN (L : List Nat) : List Value := L.map fun (d : Nat) => Value.int .u8 (d : Int)
theorem cellsN_len (L : List Nat) : (cellsN L).length = L.length := by simp [cellsN]
theorem cellsN_app (L M : List Nat) : cellsN (L ++ M) = cellsN L ++ cellsN M := by simp [cellsN]

theorem iter_grown (w : World) (k : Nat) (s : ByteArray) (pos : Nat) : w.grownBy (w.iterAt k s pos) (some k) :=
  ⟨rfl, rfl, rfl, by rw [Lib.iterAt_size]; exact Nat.le_refl _, fun i _ hne => Lib.iterAt_other w k i s pos (fun e => hne (by rw [e]))⟩
theorem own_ne_iter {w : World} {B e n : Nat} {v : Value} {xs : List Value} {k pos : Nat} {s : ByteArray} (h : w.ownsRow B e 1 v n xs) (hk : w.heap[k]? = some (.stringIter s pos)) : v.ownBlock ≠ some k := by
  rcases h.2 with ⟨rfl, _⟩ | ⟨g, cap, cur, rfl, _, hg, _⟩
  · simp [Value.ownBlock]
  · intro he
    have : g = k := by simpa [Value.ownBlock] using he
    subst this
    rw [hg] at hk
    cases hk

theorem blk_at_new {w : World} {n : Nat} (h : w.heap.size = n) (o : Obj) : (w.alloc o).heap[n]? = some o := by subst h; exact heap_alloc_new w o

theorem infoU8 : (Tryz.prog.info? 5).map (fun i => (i.zero, i.size, i.bytes)) = some (some (.int .u8 0), 1, 1) := by kernel_rfl

theorem run_make_u8 (n : Nat) (hn : n ≤ 1048576) (W : World) : (Instr.makeSlice 69 (.int .i64 0) (.int .i64 (n : Int))).run Tryz.prog W = .ok (.slice (some ⟨W.heap.size, 0, none⟩) 0 n) (W.alloc (.cells (madeCells #[.int .u8 0] n) 5)) := by
  obtain ⟨i0, hi, hz0, hz1, hz2⟩ := info_parts infoU8
  have hr := run_make (P := Tryz.prog) W 69 5 i0 (.int .u8 0) Tryz.underlying69 hi hz0 .i64 .i64 0 n (by omega) (by omega) (by rw [hz2]; omega) (by omega)
  simpa [hz1, Value.cells] using hr

theorem made_len (z : Value) (n : Nat) : (madeCells #[z] n).size = n := by
  have := congrArg List.length (toList_madeCells_one z n)
  simpa using this

/-- What 'fraction' returns. -/
def fracS (q : Nat) (l : List UInt8) : Nat × Bool := if digsB l then (bitsL q (l.map fun c => c.toNat - 48), true) else (0, false)

theorem take_succ_str (s : ByteArray) (k : Nat) (h : k < s.size) : s.data.toList.take (k + 1) = s.data.toList.take k ++ [s[k]] := by
  rw [List.take_succ_eq_append_getElem (by simpa using h)]; rfl
theorem digsB_false (s : ByteArray) (k : Nat) (h : k < s.size) (hd : digitB s[k] = false) : digsB s.data.toList = false := by
  have h1 : s[k] ∈ s.data.toList := by
    have : s.data.toList.drop k = s[k] :: s.data.toList.drop (k + 1) := drop_at s k h
    exact List.mem_of_mem_drop (i := k) (by rw [this]; simp)
  unfold digsB
  rw [List.all_eq_false]
  exact ⟨s[k], h1, by rw [hd]; simp⟩

theorem drop_frac {L : List Nat} {k d : Nat} (h : L[k]? = some d) : L.drop k = d :: L.drop (k + 1) := by
  obtain ⟨hk, rfl⟩ := List.getElem?_eq_some_iff.1 h
  exact List.drop_eq_getElem_cons hk
theorem take_frac {L : List Nat} {k d : Nat} (h : L[k]? = some d) : L.take (k + 1) = L.take k ++ [d] := by
  obtain ⟨hk, rfl⟩ := List.getElem?_eq_some_iff.1 h
  exact List.take_succ_eq_append_getElem hk
/-- One digit of a row is another one. -/
theorem cells_set {L M : List Nat} {k d r : Nat} (h : L[k]? = some d) : (cellsN (L.take (k + 1) ++ M)).set k (.int .u8 (r : Int)) = cellsN (L.take k ++ (r :: M)) ∧ (cellsN (L.take (k + 1) ++ M))[k]? = some (.int .u8 (d : Int)) := by
  have hk := (List.getElem?_eq_some_iff.1 h).1
  have hl : (L.take k).length = k := by rw [List.length_take]; omega
  rw [take_frac h, List.append_assoc, List.singleton_append]
  unfold cellsN
  rw [List.map_append, List.map_append, List.map_cons, List.map_cons]
  have hl2 : ((L.take k).map fun (d : Nat) => Value.int .u8 (d : Int)).length = k := by rw [List.length_map, hl]
  constructor
  · rw [List.set_append_right _ _ (by omega), hl2, Nat.sub_self, List.set_cons_zero]
  · rw [List.getElem?_append_right (by omega), hl2, Nat.sub_self]
    rfl

theorem dbl_bd : ∀ (L : List Nat), (∀ d ∈ L, d ≤ 9) → (dblL L).1 ≤ 1 ∧ (dblL L).2.length = L.length ∧ ∀ d ∈ (dblL L).2, d ≤ 9
  | [], _ => by simp [dblL]
  | d :: L, h => by
    have ih := dbl_bd L (fun x hx => h x (by simp [hx]))
    have hd := h d (by simp)
    simp only [dblL, List.length_cons]
    refine ⟨by omega, by omega, fun x hx => ?_⟩
    rcases List.mem_cons.1 hx with rfl | hx
    · omega
    · exact ih.2.2 x hx

set_option maxRecDepth 100000 in
set_option maxHeartbeats 4000000 in
theorem fraction_any (s : ByteArray) (q : Nat) (w : World) (hs : s.size ≤ 62) (hq : q ≤ 62) : Calls Tryz.prog 73 #[.string s, .int .i64 q] w fun e w' => e = .returned (.tuple #[.int .u64 (fracS q s.data.toList).1, .bool (fracS q s.data.toList).2]) ∧ Below w.heap.size w w' := by
  obtain ⟨i0, hi0, hz0, hz1, hz2⟩ := info_parts infoU8
  have H0 := Lib.hid (And.intro hi0 (And.intro hz0 (And.intro hz1 hz2)))
  have hlen : s.data.toList.length = s.size := Array.length_toList
  have hmk := run_make_u8 s.size (by omega)
  have HS := Lib.hid (And.intro hs (And.intro hq hlen))
  clear hi0 hz0 hz1 hz2 hs hq hlen
  go_enter Tryz.func73, Tryz.ntmps73
  go_wp2_with fail
  clear hmk
  have hstart : ((w.alloc (.cells (madeCells #[.int .u8 0] s.size) 5)).iter s 0).ownsRow w.heap.size 5 1 (.slice (some ⟨w.heap.size, 0, none⟩) 0 s.size) 0 (cellsN []) :=
    World.ownsRow.alloc ⟨by simp [cellsN], .inr ⟨w.heap.size, s.size, _, rfl, Nat.le_refl _, heap_alloc_new w _, Nat.zero_le _, by have := HS.out.1; unfold maxLen; omega, by rw [made_len]; omega, by simp [cellsN]⟩⟩ _
  have hiter : ((w.alloc (.cells (madeCells #[.int .u8 0] s.size) 5)).iter s 0).heap[w.heap.size + 1]? = some (.stringIter s 0) := blk_at_new (by simp) _
  have hbel : Below w.heap.size w ((w.alloc (.cells (madeCells #[.int .u8 0] s.size) 5)).iter s 0) := ((Below.refl _ _).alloc (Nat.le_refl _) _).alloc (by simp) _
  have H1 := Lib.hid (And.intro hstart (And.intro hiter hbel))
  clear hstart hiter hbel
  go_loopw [6] (fun v wr => ∃ k : Nat, k ≤ s.size ∧ wr.heap[w.heap.size + 1]? = some (.stringIter s k) ∧ wr.ownsRow w.heap.size 5 1 v k (cellsN ((s.data.toList.take k).map fun c => c.toNat - 48)) ∧ digsB (s.data.toList.take k) = true ∧ Below w.heap.size w wr) (fun _ wr => s.size - wr.iterPos (w.heap.size + 1))
  case atStart => exact ⟨0, Nat.zero_le _, H1.out.2.1, H1.out.1, rfl, H1.out.2.2⟩
  case round =>
    obtain ⟨k, hk, hit, hown, hdg, hb⟩ := hrel
    have HI := Lib.hid (And.intro hit (And.intro hown (And.intro hdg hb)))
    clear hit hown hdg hb H1
    by_cases hlt : k < s.size
    · by_cases hasc : s[k].toNat < 128
      · have hnx := fun ty => Lib.run_next_ascii_at (P := Tryz.prog) wr (w.heap.size + 1) s k ty HI.out.1 hlt hasc
        by_cases hdig : 48 ≤ s[k].toNat ∧ s[k].toNat ≤ 57
        · obtain ⟨d, hd⟩ : ∃ d, s[k].toNat - 48 = d := ⟨_, rfl⟩
          have t1 : ¬ (s[k].toNat : Int) < 48 := by omega
          have t2 : ¬ (57 : Int) < (s[k].toNat : Int) := by omega
          have hw1 : IntKind.i32.wrap ((s[k].toNat : Int) - 48) = (d : Int) := by simp [IntKind.wrap, IntKind.bits, IntKind.signed]; omega
          have hw2 : IntKind.u8.wrap (d : Int) = (d : Int) := by rw [IntKind.wrap_u8']; omega
          have ho := HI.out.2.1.kept (iter_grown wr (w.heap.size + 1) s (k + 1)) (.inr (own_ne_iter HI.out.2.1 HI.out.1))
          have HO := Lib.hid ho
          have HT := Lib.hid (show (s.data.toList.take (k + 1)).map (fun c => c.toNat - 48) = (s.data.toList.take k).map (fun c => c.toNat - 48) ++ [d] by rw [take_succ_str s k hlt, List.map_append, ← hd]; rfl)
          have HDG := Lib.hid (show digsB (s.data.toList.take (k + 1)) = true by rw [take_succ_str s k hlt]; unfold digsB; rw [List.all_append]; have := HI.out.2.2.1; unfold digsB at this; rw [this]; simp [digitB, hdig])
          have hsz : w.heap.size + 1 < wr.heap.size := blk_lt HI.out.1
          clear ho hd hdig hasc
          go_wp2_with (at_builtin; refine wpList_append_own _ rfl _ _ 69 rfl w.heap.size 5 i0 (.int .u8 0) 1 1 Tryz.underlying69 H0.out.1 H0.out.2.1 H0.out.2.2.1 H0.out.2.2.2 rfl (by decide) _ _ _ rfl (HO.out.alloc _) ⟨(wr.iterAt (w.heap.size + 1) s (k + 1)).heap.size, 0, none⟩ 1 1 [.int .u8 d] rfl rfl ?c1 ?c2 ?c3 ?c4 ?c5 ?_)
          case c2 => first | rfl | (intro u hu; simp at hu; subst hu; rfl)
          case c3 => have := HS.out.1; unfold maxLen; omega
          case c4 => have := HS.out.1; omega
          case c5 => have := HI.out.2.2.2.size; simp [World.iterAt]; omega
          intro v' w2 hown' hgrow _
          have hit2 : w2.heap[w.heap.size + 1]? = some (.stringIter s (k + 1)) := by
            rw [hgrow.block (w.heap.size + 1) (by simp [World.iterAt]; omega) (fun e => own_ne_iter HO.out (Lib.iterAt_heap wr _ s k (k + 1) HI.out.1) e.symm), Below.heap_alloc _ _ _ (by simp [World.iterAt]; omega)]
            exact Lib.iterAt_heap wr _ s k (k + 1) HI.out.1
          have HB2 := Lib.hid (below_own ((Lib.below_iterAt HI.out.2.2.2 (Nat.le_succ _) s (k + 1)).alloc (by have := HI.out.2.2.2.size; simp [World.iterAt]; omega) (.cells #[.int .u8 d] 5)) (Nat.le_refl _) (Nat.le_refl _) (HO.out.alloc _) hgrow)
          have HW := Lib.hid (And.intro hown' hit2)
          have hip := iterPos_of hit2
          have hip0 := iterPos_of HI.out.1
          clear hown' hgrow hit2
          go_wp2_with fail
          go_roundw
          case rel => exact ⟨k + 1, by omega, HW.out.2, by rw [HT.out, cellsN_app, List.map_take]; exact HW.out.1, HDG.out, HB2.out⟩
          case measure => rw [hip, hip0]; omega
        · have HF := Lib.hid (show fracS q s.data.toList = (0, false) by unfold fracS; rw [digsB_false s k hlt (by simp [digitB]; omega)]; rfl)
          have HB2 := Lib.hid (Lib.below_iterAt HI.out.2.2.2 (Nat.le_succ _) s (k + 1))
          by_cases h48 : s[k].toNat < 48
          · have t1 : (s[k].toNat : Int) < 48 := by omega
            clear hdig hasc h48
            go_wp2_with fail
            go_ret2
            exact ⟨by rw [HF.out]; rfl, HB2.out⟩
          · have t1 : ¬ (s[k].toNat : Int) < 48 := by omega
            have t2 : (57 : Int) < (s[k].toNat : Int) := by omega
            clear hdig hasc h48
            go_wp2_with fail
            go_ret2
            exact ⟨by rw [HF.out]; rfl, HB2.out⟩
      · have hnx := fun ty => Lib.run_next_any_at (P := Tryz.prog) wr (w.heap.size + 1) s k ty HI.out.1 hlt
        obtain ⟨hr1, hr2⟩ := decode_high s k hlt (by omega)
        have HF := Lib.hid (show fracS q s.data.toList = (0, false) by unfold fracS; rw [digsB_false s k hlt (by simp [digitB]; omega)]; rfl)
        have HB2 := Lib.hid (Lib.below_iterAt HI.out.2.2.2 (Nat.le_succ _) s (k + (Utf8.decode s k).2))
        have t1 : ¬ (Utf8.decode s k).1 < 48 := by omega
        have t2 : (57 : Int) < (Utf8.decode s k).1 := by omega
        clear hasc hr1 hr2
        go_wp2_with fail
        go_ret2
        exact ⟨by rw [HF.out]; rfl, HB2.out⟩
    · have hnx := fun ty => Lib.run_next_end_at (P := Tryz.prog) wr (w.heap.size + 1) s k ty HI.out.1 hlt
      obtain rfl : k = s.size := by omega
      have hown := HI.out.2.1
      have htk : s.data.toList.take s.size = s.data.toList := List.take_of_length_le (by rw [HS.out.2.2]; exact Nat.le_refl _)
      rw [htk] at hown
      have hdg := HI.out.2.2.1
      rw [htk] at hdg
      have HF := Lib.hid (show fracS q s.data.toList = (bitsL q (s.data.toList.map fun c => c.toNat - 48), true) by unfold fracS; rw [hdg]; rfl)
      have hL9 : ∀ d ∈ s.data.toList.map (fun c => c.toNat - 48), d ≤ 9 := fun d hd => by
        obtain ⟨c, hc, rfl⟩ := List.mem_map.1 hd
        have := List.all_eq_true.1 hdg c hc
        simp [digitB] at this
        omega
      have hL0 : (s.data.toList.map fun c => c.toNat - 48).length = s.size := by rw [List.length_map, HS.out.2.2]
      generalize (s.data.toList.map fun c => c.toNat - 48) = L0 at hown HF hL9 hL0
      obtain ⟨A, cap, rfl, hA⟩ : ∃ A cap, u6 = .slice A s.size cap ∧ (0 < s.size → ∃ g, A = some ⟨g, 0, none⟩) := by
        rcases hown.2 with ⟨hv, h0⟩ | ⟨g, cap, cur, hv, _⟩
        · exact ⟨none, 0, by rw [hv, h0], fun h => by omega⟩
        · exact ⟨_, _, hv, fun _ => ⟨g, rfl⟩⟩
      have HO := Lib.hid (And.intro hown (And.intro hL9 hL0))
      have HB0 := Lib.hid HI.out.2.2.2
      have HA := Lib.hid hA
      clear hown htk hdg hL9 hL0 hA HI hk hlt
      go_wp2_with fail
      clear hnx
      go_loopw [9, 34] (fun nv jv wr => ∃ (j N : Nat) (L : List Nat), j ≤ q ∧ jv = .int .i64 j ∧ nv = .int .u64 N ∧ L.length = s.size ∧ (∀ d ∈ L, d ≤ 9) ∧ wr.ownsRow w.heap.size 5 1 (.slice A s.size cap) s.size (cellsN L) ∧ N < p2 j ∧ N * p2 (q - j) + bitsL (q - j) L = bitsL q L0 ∧ Below w.heap.size w wr) (fun _ jv _ => q - (intOf jv).toNat)
      case atStart => exact ⟨0, 0, L0, Nat.zero_le _, rfl, rfl, HO.out.2.2, HO.out.2.1, HO.out.1, by decide, by rw [Nat.zero_mul, Nat.zero_add]; rfl, HB0.out⟩
      case round =>
        obtain ⟨j, N, L, hj, rfl, rfl, hLl, hL9, hown, hN, hv, hb⟩ := hrel
        by_cases hlt : j < q
        · obtain ⟨c0, L2, hdb⟩ : ∃ c0 L2, dblL L = (c0, L2) := ⟨_, _, rfl⟩
          have hd19 := dbl_bd L hL9
          rw [hdb] at hd19
          have hq62 := HS.out.2.1
          have hpj := p2_le (q := j) (by omega)
          have HV := Lib.hid (show (2 * N + c0) * p2 (q - (j + 1)) + bitsL (q - (j + 1)) L2 = bitsL q L0 by
            rw [← hv, show q - j = q - (j + 1) + 1 by omega, bitsL, hdb, p2_succ, Nat.add_mul, Nat.mul_comm 2 N, Nat.mul_assoc, Nat.add_assoc])
          have HN := Lib.hid (show 2 * N + c0 < p2 (j + 1) by rw [p2_succ]; have := hd19.1; dsimp only at this; omega)
          have HL := Lib.hid (And.intro hLl (And.intro hL9 (And.intro hown (And.intro hdb (And.intro hd19 hb)))))
          obtain ⟨N2, hN2⟩ : ∃ N2, 2 * N = N2 := ⟨_, rfl⟩
          have hw1 : IntKind.u64.wrap ((N : Int) * 2) = (N2 : Int) := by rw [IntKind.wrap_u64]; omega
          obtain ⟨N3, hN3⟩ : ∃ N3, 2 * N + c0 = N3 := ⟨_, rfl⟩
          have hor : bits .or .u64 (N2 : Int) (c0 : Int) = (N3 : Int) := by
            have hc0 : c0 ≤ 1 := hd19.1
            rw [u64_or_nat N2 c0 (by omega) (by omega)]
            congr 1
            rw [← hN3, ← hN2]
            have := Nat.two_pow_add_eq_or_of_lt (i := 1) (b := c0) (by omega) N
            rw [Nat.pow_one] at this
            exact this.symm
          have hwc : IntKind.u64.wrap (c0 : Int) = c0 := by rw [IntKind.wrap_u64]; have := hd19.1; dsimp only at this; omega
          have hs0 : (s.size : Int) ≤ 62 := by have := HS.out.1; omega
          have hj62 : (j : Int) ≤ 62 := by omega
          rw [hN3] at HV HN
          clear hLl hL9 hown hN hv hb hdb hd19 hpj hN2 hN3 hq62
          go_wp2_with fail
          go_loopw [10, 11] (fun c i wr => ∃ (m cc : Nat), m ≤ s.size ∧ i = .int .i64 ((m : Int) - 1) ∧ c = .int .u8 (cc : Int) ∧ cc = (dblL (L.drop m)).1 ∧ wr.ownsRow w.heap.size 5 1 (.slice A s.size cap) s.size (cellsN (L.take m ++ (dblL (L.drop m)).2)) ∧ Below w.heap.size w wr) (fun _ i _ => (intOf i + 1).toNat)
          case atStart =>
            refine ⟨s.size, 0, Nat.le_refl _, rfl, rfl, ?_, ?_, HL.out.2.2.2.2.2⟩
            · rw [List.drop_of_length_le (by rw [HL.out.1]; exact Nat.le_refl _)]; rfl
            · rw [List.drop_of_length_le (by rw [HL.out.1]; exact Nat.le_refl _), List.take_of_length_le (by rw [HL.out.1]; exact Nat.le_refl _)]
              simp only [dblL, List.append_nil]
              exact HL.out.2.2.1
          case round =>
            obtain ⟨m, cc, hm, rfl, rfl, hcc, hown, hb⟩ := hrel
            cases m with
            | zero =>
              rw [List.drop_zero, HL.out.2.2.2.1] at hcc hown
              dsimp only at hcc
              subst hcc
              have ho : _root_.Go.World.ownsRow _ w.heap.size 5 1 (.slice A s.size cap) s.size (cellsN L2) := hown
              have e0 : (((0 : Nat) : Int) - 1) = -1 := rfl
              rw [e0]
              have HOW := Lib.hid ho
              have HB := Lib.hid hb
              clear hown ho hb hm e0
              go_wp2_with fail
              go_roundw
              case rel => exact ⟨j + 1, N3, L2, by omega, by go_num, rfl, by rw [← HL.out.1]; exact HL.out.2.2.2.2.1.2.1, HL.out.2.2.2.2.1.2.2, HOW.out, HN.out, HV.out, HB.out⟩
              case measure => simp [intOf]; omega
            | succ m =>
              obtain ⟨g, rfl⟩ := HA.out (by omega)
              obtain ⟨d, hd⟩ := get_some L m (by rw [HL.out.1]; omega)
              have hd9 : d ≤ 9 := HL.out.2.1 d (List.mem_of_getElem? hd)
              have hdb := dbl_bd (L.drop (m + 1)) (fun x hx => HL.out.2.1 x (List.mem_of_mem_drop hx))
              have hstep : dblL (L.drop m) = ((2 * d + cc) / 10, (2 * d + cc) % 10 :: (dblL (L.drop (m + 1))).2) := by
                rw [drop_frac hd, dblL, ← hcc]
              rw [← hcc] at hdb
              obtain ⟨v, hv⟩ : ∃ v, 2 * d + cc = v := ⟨_, rfl⟩
              rw [hv] at hstep
              obtain ⟨r, hr⟩ : ∃ r, v % 10 = r := ⟨_, rfl⟩
              obtain ⟨c1, hc1⟩ : ∃ c1, v / 10 = c1 := ⟨_, rfl⟩
              rw [hr, hc1] at hstep
              obtain ⟨d2, hd2⟩ : ∃ d2, 2 * d = d2 := ⟨_, rfl⟩
              have k1 : IntKind.u8.wrap (2 * (d : Int)) = (d2 : Int) := by rw [IntKind.wrap_u8']; omega
              have k2 : IntKind.u8.wrap ((d2 : Int) + (cc : Int)) = (v : Int) := by rw [IntKind.wrap_u8']; omega
              have k3 : (v : Int) % 10 = (r : Int) := by omega
              have k4 : (v : Int) / 10 = (c1 : Int) := by omega
              have k5 : 0 ≤ (v : Int) := by omega
              have k6 : (c1 : Int) % 256 = (c1 : Int) := by omega
              have k7 : (r : Int) % 256 = (r : Int) := by omega
              have hset := cells_set (M := (dblL (L.drop (m + 1))).2) (r := r) hd
              have hc := hown.cellAt m (by omega)
              rw [hset.2] at hc
              have hfz := hown.frozenAt m
              have hst := hown.stored m (.int .u8 (r : Int))
              rw [hset.1] at hst
              have e1 : (((m + 1 : Nat) : Int) - 1) = (m : Int) := by omega
              rw [e1]
              have HST := Lib.hid hst.1
              have HX := Lib.hid hstep
              have HB := Lib.hid (hb.setCell (p := ⟨g, m, none⟩) (by
                rcases hown.2 with ⟨hv, _⟩ | ⟨g', cap', cur, hv, hg', _⟩
                · simp at hv
                · simp at hv; rw [hv.1]; exact hg') (.int .u8 (r : Int)))
              clear hd hd9 hdb hstep hv hr hc1 hd2 hset hst hown hb hcc e1
              go_wp2_with fail
              go_roundw
              case rel => exact ⟨m, c1, by omega, rfl, rfl, by rw [HX.out], by rw [HX.out]; exact HST.out, HB.out⟩
              case measure => simp [intOf]
        · obtain rfl : j = q := by omega
          have HV := Lib.hid (show bitsL j L0 = N by rw [← hv, Nat.sub_self]; simp [bitsL, p2])
          have HB := Lib.hid hb
          clear hLl hL9 hown hN hv hb
          go_wp2_with fail
          go_ret2
          exact ⟨by rw [HF.out, HV.out]; rfl, HB.out⟩

end Go.Proofs.YtiokdfkddcokoaaGreatDoor
